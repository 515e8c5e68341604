/- The reference's buffer: least. No condition but the sizes'. -/
import Derived.Test.YtcempndfbckcaaaReY
import Derived.Test.YtcempndfbckcaaaI1
namespace Go.Proofs.Ytcempndfbckcaaa
open Go.RowKit

def prE (E : Ent) : Int × List Nat := (E.i, E.b)
/-- The reference's buffer. -/
structure RoI (w : World) (base g0 : Nat) (sl : Option Addr) (cl_ : Nat) (sc : Option Addr) (cc : Nat) (S : BS) : Prop where
  hp : HpB w g0 (.cells #[.int .i64 S.many, .int .i64 S.wait, .int .i64 S.next, .slice sl S.L.length cl_, .slice sc S.L.length cc, .int .i64 S.passed, .int .i64 S.dropped] 86)
  l : EQ IB 70 w base (.slice sl S.L.length cl_) S.L.length (S.L.map prE)
  c : EQ I1 2 w base (.slice sc S.L.length cc) S.L.length (S.L.map Ent.c)
theorem RoI.bw {w w' : World} {base g0 sl cl_ sc cc S} (h : RoI w base g0 sl cl_ sc cc S) (b : BW w w') : RoI w' base g0 sl cl_ sc cc S := ⟨h.hp.bw b, h.l.bw b, h.c.bw b⟩
theorem RoI.lform {w : World} {base g0 sl cl_ sc cc S} (h : RoI w base g0 sl cl_ sc cc S) (h0 : 0 < S.L.length) :
    ∃ g o, sl = some ⟨g, o, none⟩ ∧ S.L.length ≤ cl_ ∧ cl_ ≤ maxLen ∧ ∀ i (hi : i < S.L.length), ∃ s cb, w.cell? ⟨g, o + i * 2, none⟩ = some (.int .i64 (S.L[i]).i) ∧ w.cell? ⟨g, o + i * 2 + 1, none⟩ = some (.slice s (S.L[i]).b.length cb) ∧ OB w base 5 (.slice s (S.L[i]).b.length cb) (S.L[i]).b.length (S.L[i]).b := by
  obtain ⟨g, o, e, a1, a2, a3⟩ := kp_form h.l h0
  refine ⟨g, o, e, a1, a2, fun i hi => ?_⟩
  obtain ⟨s, cb, k0, k1, k2⟩ := a3 i (by simpa using hi)
  rw [List.getElem_map] at k0 k1 k2
  exact ⟨s, cb, k0, k1, k2⟩
theorem RoI.cform {w : World} {base g0 sl cl_ sc cc S} (h : RoI w base g0 sl cl_ sc cc S) (h0 : 0 < S.L.length) :
    ∃ g o, sc = some ⟨g, o, none⟩ ∧ ∀ i (hi : i < S.L.length), w.cell? ⟨g, o + i, none⟩ = some (.int .i64 (S.L[i]).c) := by
  obtain ⟨g, o, e, a3⟩ := i1_form h.c h0
  refine ⟨g, o, e, fun i hi => ?_⟩
  have k0 := a3 i (by simpa using hi)
  rw [List.getElem_map] at k0
  exact k0
set_option maxRecDepth 100000 in
set_option maxHeartbeats 8000000 in
theorem rleast_any (base g0 : Nat) (sl : Option Addr) (cl_ : Nat) (sc : Option Addr) (cc : Nat) (S : BS) (h0 : 0 < S.L.length) (hn : S.L.length ≤ 1000) (w : World) (h : RoI w base g0 sl cl_ sc cc S) :
    Calls Try.prog 79 #[.pointer (some ⟨g0, 0, none⟩)] w fun e w' => e = .returned (.int .i64 (leastI S.L : Nat)) ∧ BW w w' := by
  obtain ⟨R, hR⟩ : ∃ R, leastI S.L = R := ⟨_, rfl⟩
  rw [hR]
  unfold leastI at hR
  have hH := Lib.hid h
  obtain ⟨g, o, rfl, hc1, hc2, -⟩ := h.lform h0
  unfold maxLen at hc2
  clear h
  obtain ⟨n, hnn⟩ : ∃ n, S.L.length = n := ⟨_, rfl⟩
  rw [hnn] at h0 hn hR hc1
  replace hR := Lib.hid hR
  replace hnn := Lib.hid hnn
  go_enter Try.func79, Try.ntmps79
  go_upto_region 3 with (fail)
  go_loopg [3, 4] n (fun m' a i wx => ∃ k : Nat, m' = n + 1 - k ∧ 1 ≤ k ∧ k ≤ n ∧ a = .int .i64 (leastTo S.L k : Nat) ∧ i = .int .i64 (k : Nat) ∧ Hid (BW w wx))
  case atStart => exact ⟨1, by omega, by omega, by omega, by simp [leastTo], rfl, BW.refl _⟩
  case round =>
    obtain ⟨k, rfl, hk1, hk, rfl, rfl, B⟩ := hrel
    have hlt := leastTo_lt S.L k (by omega)
    have z3 : wr.cell? ⟨g0, 3, none⟩ = some (.slice (some ⟨g, o, none⟩) n cl_) := by
      have := hp_cell (hH.out.bw B.out).hp 3
      rw [hnn.out] at this
      exact this
    by_cases hkn : k < n
    · have d : decide ((k : Int) < (n : Int)) = true := by simp; omega
      obtain ⟨_, _, he, -, -, hcc⟩ := (hH.out.bw B.out).lform (by rw [hnn.out]; omega)
      cases he
      obtain ⟨_, _, y0, -⟩ := hcc k (by rw [hnn.out]; exact hkn)
      obtain ⟨_, _, y1, -⟩ := hcc (leastTo S.L k) (by rw [hnn.out]; omega)
      have hS : leastTo S.L (k + 1) = if (S.L[k]'(by rw [hnn.out]; exact hkn)).i < (S.L[leastTo S.L k]'(by rw [hnn.out]; omega)).i then k else leastTo S.L k := by
        rw [leastTo]
        simp only [List.getD_eq_getElem?_getD]
        rw [List.getElem?_eq_getElem (by rw [hnn.out]; exact hkn), List.getElem?_eq_getElem (by rw [hnn.out]; omega)]
        rfl
      have m0 : ∀ y : LaterS [] wr, _ := fun y => y.bw.cell y0
      have m1 : ∀ y : LaterS [] wr, _ := fun y => y.bw.cell y1
      have m3 : ∀ y : LaterS [] wr, _ := fun y => y.bw.cell z3
      clear hcc y0 y1
      generalize (S.L[k]'(by rw [hnn.out]; exact hkn)).i = x at *
      generalize (S.L[leastTo S.L k]'(by rw [hnn.out]; omega)).i = y at *
      generalize leastTo S.L k = a at *
      replace hS := Lib.hid hS
      go_upto_region 5 with (fail)
      refine wp_region_gg [] [] [] (by kernel_rfl) ?_
      refine hoist [] [] (a1 := ?_) 0 rfl (by kernel_rfl) (.inl ⟨rfl, rfl⟩) rfl rfl rfl (fun x K hK => ?_) ?_
      rotate_left
      · go_big_quiet_op
        exact hK
      refine hoist [] [] (a1 := ?_) 1 rfl (by kernel_rfl) (.inl ⟨rfl, rfl⟩) rfl rfl rfl (fun x K hK => ?_) ?_
      rotate_left
      · go_big_quiet_op
        exact hK
      refine hoist [] [] (a1 := ?_) 2 rfl (by kernel_rfl) (.inl ⟨rfl, rfl⟩) rfl rfl rfl (fun x K hK => ?_) ?_
      rotate_left
      · go_big_quiet_op
        exact hK
      refine hoist [] [] (a1 := ?_) 3 rfl (by kernel_rfl) (.inl ⟨rfl, rfl⟩) rfl rfl rfl (fun x K hK => ?_) ?_
      rotate_left
      · go_big_quiet_op
        exact hK
      refine hoist [] [] (a1 := ?_) 4 rfl (by kernel_rfl) (.inl ⟨rfl, rfl⟩) rfl rfl rfl (fun x K hK => ?_) ?_
      rotate_left
      · go_big_quiet_op
        exact hK
      refine hoist [] [] (a1 := ?_) 5 rfl (by kernel_rfl) (.inl ⟨rfl, rfl⟩) rfl rfl rfl (fun x K hK => ?_) ?_
      rotate_left
      · go_big_quiet_op
        exact hK
      refine hoist [] [] (a1 := ?_) 6 rfl (by kernel_rfl) (.inl ⟨rfl, rfl⟩) rfl rfl rfl (fun x K hK => ?_) ?_
      rotate_left
      · go_big_quiet_op
        exact hK
      refine hoist [] [] (a1 := ?_) 7 rfl (by kernel_rfl) (.inl ⟨rfl, rfl⟩) rfl rfl rfl (fun x K hK => ?_) ?_
      rotate_left
      · go_big_quiet_op
        exact hK
      refine hoist [] [] (a1 := ?_) 8 rfl (by kernel_rfl) (.inl ⟨rfl, rfl⟩) rfl rfl rfl (fun x K hK => ?_) ?_
      rotate_left
      · go_big_quiet_op
        exact hK
      refine hoist [] [] (a1 := ?_) 9 rfl (by kernel_rfl) (.inl ⟨rfl, rfl⟩) rfl rfl rfl (fun x K hK => ?_) ?_
      rotate_left
      · go_big_quiet_op
        exact hK
      refine hoist [] [] (a1 := ?_) 10 rfl (by kernel_rfl) (.inl ⟨rfl, rfl⟩) rfl rfl rfl (fun x K hK => ?_) ?_
      rotate_left
      · go_big_quiet_op
        exact hK
      refine hoist [] [] (a1 := ?_) 11 rfl (by kernel_rfl) (.inl ⟨rfl, rfl⟩) rfl rfl rfl (fun x K hK => ?_) ?_
      rotate_left
      · go_big_quiet_op
        exact hK
      refine hoist [] [] (a1 := ?_) 12 rfl (by kernel_rfl) (.inl ⟨rfl, rfl⟩) rfl rfl rfl (fun x K hK => ?_) ?_
      rotate_left
      · go_big_quiet_op
        exact hK
      refine hoist [] [] (a1 := ?_) 13 rfl (by kernel_rfl) (.inl ⟨rfl, rfl⟩) rfl rfl rfl (fun x K hK => ?_) ?_
      rotate_left
      · go_big_quiet_op
        exact hK
      refine hoist [] [] (a1 := ?_) 14 rfl (by kernel_rfl) (.inl ⟨rfl, rfl⟩) rfl rfl rfl (fun x K hK => ?_) ?_
      rotate_left
      · go_big_quiet_op
        exact hK
      refine hoist [] [] (a1 := ?_) 15 rfl (by kernel_rfl) (.inl ⟨rfl, rfl⟩) rfl rfl rfl (fun x K hK => ?_) ?_
      rotate_left
      · go_big_quiet_op
        exact hK
      refine hoist [] [] (a1 := ?_) 16 rfl (by kernel_rfl) (.inl ⟨rfl, rfl⟩) rfl rfl rfl (fun x K hK => ?_) ?_
      rotate_left
      · go_big_quiet_op
        exact hK
      refine done (by kernel_rfl) (fun xr => ?_)
      have B2 := Lib.hid (B.out.trans xr.bw)
      clear m0 m1 m3 z3 B
      generalize xr.now = w2 at *
      by_cases hxy : x < y
      · have d2 : decide (x < y) = true := by simpa using hxy
        have e1 : leastTo S.L (k + 1) = k := by rw [hS.out, if_pos hxy]
        clear hS
        replace e1 := Lib.hid e1
        go_wp2_with fail
        go_roundg (n + 1 - (k + 1))
        case measure => omega
        case rel => exact ⟨k + 1, rfl, by omega, by omega, by rw [e1.out], by push_cast; rfl, B2⟩
      · have d2 : decide (x < y) = false := by simpa using hxy
        have e1 : leastTo S.L (k + 1) = a := by rw [hS.out, if_neg hxy]
        clear hS
        replace e1 := Lib.hid e1
        go_wp2_with fail
        go_roundg (n + 1 - (k + 1))
        case measure => omega
        case rel => exact ⟨k + 1, rfl, by omega, by omega, by rw [e1.out], by push_cast; rfl, B2⟩
    · obtain rfl : k = n := by omega
      have d : decide ((k : Int) < (k : Int)) = false := by simp
      have hRR := hR.out
      replace hRR := Lib.hid hRR
      go_wp2_with fail
      go_ret
      exact ⟨by rw [hRR.out]; rfl, B.out⟩
end Go.Proofs.Ytcempndfbckcaaa
