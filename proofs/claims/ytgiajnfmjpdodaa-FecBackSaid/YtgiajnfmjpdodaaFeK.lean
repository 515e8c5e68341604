/- The reference's covers of packets: Xor. No condition but the sizes'. -/
import Derived.Test.YtgiajnfmjpdodaaFeJ
import Derived.Test.YtgiajnfmjpdodaaArB
namespace Go.Proofs.Ytgiajnfmjpdodaa
open Go.RowKit

/-- A row as long as n. -/
def fitN (n : Nat) (a : List Nat) : List Nat := (List.range n).map fun i => a.getD i 0
theorem fit_len (n : Nat) (a : List Nat) : (fitN n a).length = n := by simp [fitN]
theorem fit_get (n : Nat) (a : List Nat) (i : Nat) (h : i < n) : (fitN n a).getD i 0 = a.getD i 0 := by
  rw [List.getD_eq_getElem?_getD, List.getElem?_eq_getElem (by rw [fit_len]; exact h)]
  simp [fitN]
theorem fit_nil (n : Nat) : fitN n [] = zeros n := by
  apply List.ext_getElem (by rw [fit_len, zeros_len])
  intro i h1 h2
  simp [fitN, zeros]
theorem fit_self (a : List Nat) : fitN a.length a = a := by
  apply List.ext_getElem (fit_len _ _)
  intro i h1 h2
  simp [fitN, List.getD_eq_getElem?_getD, List.getElem?_eq_getElem h2]
theorem fit_xo (n : Nat) (a r : List Nat) : xz (fitN n a) r n = fitN n (xo a r) := by
  apply List.ext_getElem (by rw [xz_len, fit_len, fit_len])
  intro i h1 h2
  rw [fit_len] at h2
  have e := fit_get n a i h2
  simp only [xz, fitN, List.getElem_map, List.getElem_range] at e ⊢
  rw [if_pos h2, xo_get, e]
theorem xor_mono (rows : List (List Nat)) (k : Nat) : (xorR (rows.take k)).length ≤ (xorR rows).length := by
  have h : ∀ (l : List (List Nat)) (a : List Nat), a.length ≤ (l.foldl xo a).length := by
    intro l
    induction l with
    | nil => exact fun a => Nat.le_refl _
    | cons r l ih => exact fun a => Nat.le_trans (by rw [xo_len]; exact Nat.le_max_left _ _) (ih (xo a r))
  conv => rhs; rw [← List.take_append_drop k rows]
  unfold xorR
  rw [List.foldl_append]
  exact h _ _
theorem xorR_all {rows : List (List Nat)} {B : Nat} (h : ∀ r ∈ rows, r.length ≤ B) (k : Nat) : (xorR (rows.take k)).length ≤ B := xorR_le (fun r hr => h r (List.mem_of_mem_take hr)) (Nat.zero_le _)
set_option maxRecDepth 100000 in
set_option maxHeartbeats 8000000 in
theorem refXor_any (v : Value) (n : Nat) (rows : List (List Nat)) (w : World) (h : SM w v n rows) (hs : ∀ r ∈ rows, r.length ≤ 1000000) (hn : n ≤ 1000000) :
    Calls Try.prog 80 #[v] w fun e w' => ∃ u, e = .returned u ∧ OB w' w.heap.size 5 u (xorR rows).length (xorR rows) ∧ Below w.heap.size w w' := by
  obtain ⟨sv, cv, rfl, hcv, hmv⟩ := h.len
  unfold maxLen at hmv
  have hH := Lib.hid h
  have hrl := Lib.hid h.1
  clear h
  have hstep := Lib.hid (xorR_step rows)
  have hrow := Lib.hid (row_le hs)
  have hxl := Lib.hid (fun k => xorR_all hs k)
  clear hs
  go_enter Try.func80, Try.ntmps80
  go_upto_region 3 with (fail)
  go_loopg [3, 4] n (fun m' s i wx => ∃ j : Nat, m' = n - j ∧ j ≤ n ∧ s = .int .i64 ((xorR (rows.take j)).length : Nat) ∧ i = .int .i64 (j : Nat) ∧ w = wx)
  case atStart => exact ⟨0, by omega, by omega, rfl, rfl, rfl⟩
  case round =>
    obtain ⟨j, rfl, hj, rfl, rfl, rfl⟩ := hrel
    by_cases hjn : j < n
    · have d : decide ((j : Int) < (n : Int)) = true := by simp; omega
      obtain ⟨b, o, cap, he, _, _, hbw, hcell⟩ := hH.out.form (by omega)
      cases he
      obtain ⟨s, ln, cl, hc, hSB⟩ := hcell j hjn
      have hst := congrArg List.length (hstep.out j (by rw [hrl.out]; exact hjn))
      rw [xo_len, hSB.1] at hst
      clear hcell hSB
      have hL0 := hxl.out j
      generalize (xorR (rows.take j)).length = L at *
      by_cases hm : L < ln
      · have d2 : decide ((L : Int) < (ln : Int)) = true := by simp; omega
        have hL : (xorR (rows.take (j + 1))).length = ln := by omega
        clear hst
        replace hL := Lib.hid hL
        go_wp2_with fail
        go_roundg (n - (j + 1))
        case measure => omega
        case rel => exact ⟨j + 1, by omega, by omega, by rw [hL.out], by push_cast; rfl, rfl⟩
      · have d2 : decide ((L : Int) < (ln : Int)) = false := by simp; omega
        have hL : (xorR (rows.take (j + 1))).length = L := by omega
        clear hst
        replace hL := Lib.hid hL
        go_wp2_with fail
        go_roundg (n - (j + 1))
        case measure => omega
        case rel => exact ⟨j + 1, by omega, by omega, by rw [hL.out], by push_cast; rfl, rfl⟩
    · obtain rfl : j = n := by omega
      have d : decide ((j : Int) < (j : Int)) = false := by simp
      have hall : rows.take j = rows := List.take_of_length_le (by rw [hrl.out]; exact Nat.le_refl _)
      have hN := hxl.out j
      simp only [hall] at hN ⊢
      generalize hNd : (xorR rows).length = N at *
      replace hNd := Lib.hid hNd
      replace hall := Lib.hid hall
      have mk := make_u8 N (by omega)
      have O0 := OB.new w w.heap.size (zeros N) N (Nat.le_refl _) (zeros_len _) (by unfold maxLen; omega) (fun x hx => by rw [List.eq_of_mem_replicate hx]; decide)
      have B0 : Below w.heap.size w (w.alloc (.cells (ivA .u8 (zeros N)) 5)) := (Below.refl _ _).alloc (Nat.le_refl _) _
      go_upto_region 9 with (fail)
      generalize hw1 : w.alloc (.cells (ivA .u8 (zeros N)) 5) = w1 at *
      generalize hgb : w.heap.size = gb at *
      have h0g : gb ≤ w1.heap.size := by have := B0.size; omega
      replace O0 := Lib.hid O0
      replace B0 := Lib.hid B0
      go_loopg [6] j (fun m' i wx => ∃ q : Nat, m' = j - q ∧ q ≤ j ∧ i = .int .i64 (q : Nat) ∧ Hid (OB wx gb 5 (.slice (some ⟨gb, 0, none⟩) N N) N (fitN N (xorR (rows.take q)))) ∧ Hid (Below gb w wx))
      case atStart => exact ⟨0, by omega, by omega, rfl, by rw [List.take_zero, show xorR [] = [] from rfl, fit_nil]; exact O0, B0⟩
      case round =>
        clear O0 B0
        obtain ⟨q, rfl, hq, rfl, O, B⟩ := hrel
        by_cases hqj : q < j
        · have d2 : decide ((q : Int) < (j : Int)) = true := by simp; omega
          obtain ⟨b, o, cap, he, _, _, hbw, hcell⟩ := hH.out.form (by omega)
          cases he
          obtain ⟨s, ln, cl, hc, hSB⟩ := hcell q hqj
          have hst := hstep.out q (by rw [hrl.out]; exact hqj)
          have hfx := fit_xo N (xorR (rows.take q)) (rows.getD q [])
          rw [← hst] at hfx
          have hbg2 : b < gb := by rw [← hgb]; exact hbw
          have H0 := Lib.hid hSB
          clear hcell hSB hst
          generalize rows.getD q [] = r at *
          generalize hA : fitN N (xorR (rows.take q)) = A at *
          have hAl := Lib.hid O.out.1
          have hAb := Lib.hid O.out.sb.2.1
          have hrb := Lib.hid H0.out.2.1
          replace hfx := Lib.hid hfx
          replace hc := Lib.hid hc
          replace hA := Lib.hid hA
          obtain ⟨wz, rfl⟩ : ∃ y, y = wr := ⟨_, rfl⟩
          go_upto_region 12 with (fail)
          go_loopg [7] N (fun m' i wx => ∃ k : Nat, m' = N - k ∧ k ≤ N ∧ i = .int .i64 (k : Nat) ∧ Hid (OB wx gb 5 (.slice (some ⟨gb, 0, none⟩) N N) N (xz A r k)) ∧ Hid (Below gb w wx))
          case atStart => exact ⟨0, by omega, by omega, rfl, by rw [xz_0]; exact O, B⟩
          case round =>
            clear O B
            obtain ⟨k, rfl, hk, rfl, O6, B6⟩ := hrel
            by_cases hkn : k < N
            · have d3 : decide ((k : Int) < (N : Int)) = true := by simp; omega
              obtain ⟨g, o1, cap1, he, -, -, -, -, hcell, -⟩ := O6.out.form (by omega)
              cases he
              have hcx := hcell k hkn
              rw [xz_getD A r k (by rw [hAl.out]; exact hkn), Nat.zero_add] at hcx
              have fa : ∀ x : LaterS [] wr, x.now.cell? ⟨gb, k, none⟩ = some (.int .u8 (A.getD k 0 : Nat)) := fun x => x.bw.cell hcx
              have hcr : wr.cell? ⟨b, o + q, none⟩ = some (.slice s ln cl) := by
                have h1 := B6.out.cell (p := ⟨b, o + q, none⟩) (by show b < gb; exact hbg2)
                rw [h1]; exact hc.out
              have fb : ∀ x : LaterS [] wr, x.now.cell? ⟨b, o + q, none⟩ = some (.slice s ln cl) := fun x => x.bw.cell hcr
              have S6 := Lib.hid (H0.out.below B6.out (Nat.le_of_eq hgb))
              have hx := xz_set A r k (by rw [hAl.out]; exact hkn)
              have hy := ByL.get hAb.out k
              have hz := ByL.get hrb.out k
              have cA := fun wy (h : SB wy (.slice s ln cl) ln r) => Lib.hid (at_any (.slice s ln cl) ln r k wy h (by omega))
              have hgt := xz_getD A r k (by rw [hAl.out]; exact hkn)
              generalize A.getD k 0 = y at *
              generalize r.getD k 0 = z at *
              have hxr := u8_xor_nat y z hy hz
              have hyx : y ^^^ z < 256 := Nat.xor_lt_two_pow (n := 8) hy hz
              clear hcell hcx hcr
              replace hgt := Lib.hid hgt
              replace hx := Lib.hid hx
              go_upto_region 14 with (fail)
              refine wp_region_gg [] [] [14] (by kernel_rfl) ?_
              refine hoist [] [] (a1 := ?_) 0 rfl (by kernel_rfl) (.inl ⟨rfl, rfl⟩) rfl rfl rfl (fun x K hK => ?_) ?_
              rotate_left
              · go_big_quiet_op
                exact hK
              refine hoist [] [] (a1 := ?_) 1 rfl (by kernel_rfl) (.inl ⟨rfl, rfl⟩) rfl rfl rfl (fun x K hK => ?_) ?_
              rotate_left
              · go_big_quiet_op
                exact hK
              refine hoist [] [] (a1 := ?_) 2 rfl (by kernel_rfl) (.inl ⟨rfl, rfl⟩) rfl rfl rfl (fun x K hK => ?_) ?_
              rotate_left
              · go_big_quiet_op
                exact hK
              refine hoist [] [] (a1 := ?_) 3 rfl (by kernel_rfl) (.inl ⟨rfl, rfl⟩) rfl rfl rfl (fun x K hK => ?_) ?_
              rotate_left
              · go_big_quiet_op
                exact hK
              refine hoist [] [] (a1 := ?_) 4 rfl (by kernel_rfl) (.inl ⟨rfl, rfl⟩) rfl rfl rfl (fun x K hK => ?_) ?_
              rotate_left
              · go_big_quiet_op
                exact hK
              refine hoist [] [] (a1 := ?_) 5 rfl (by kernel_rfl) (.inl ⟨rfl, rfl⟩) rfl rfl rfl (fun x K hK => ?_) ?_
              rotate_left
              · go_big_quiet_op
                exact hK
              refine hoist [] [] (a1 := ?_) 6 rfl (by kernel_rfl) (.inl ⟨rfl, rfl⟩) rfl rfl rfl (fun x K hK => ?_) ?_
              rotate_left
              · go_big_quiet_op
                exact hK
              refine hoist [] [] (a1 := ?_) 7 rfl (by kernel_rfl) (.inl ⟨rfl, rfl⟩) rfl rfl rfl (fun x K hK => ?_) ?_
              rotate_left
              · go_big_quiet_op
                exact hK
              refine hoist [] [] (a1 := ?_) 8 rfl (by kernel_rfl) (.inl ⟨rfl, rfl⟩) rfl rfl rfl (fun x K hK => ?_) ?_
              rotate_left
              · go_big_quiet_op
                exact hK
              refine hoist [] [] (a1 := ?_) 9 rfl (by kernel_rfl) (.inl ⟨rfl, rfl⟩) rfl rfl rfl (fun x K hK => ?_) ?_
              rotate_left
              · go_big_quiet_op
                exact hK
              refine hoist [] [] (a1 := ?_) 10 rfl (by kernel_rfl) (.inl ⟨rfl, rfl⟩) rfl rfl rfl (fun x K hK => ?_) ?_
              rotate_left
              · go_big_quiet_op
                exact hK
              refine hoist_call [] [] (a1 := ?_) 11 rfl (by kernel_rfl) (.inl ⟨rfl, rfl⟩) rfl rfl rfl (fun x K hK => ?_) ?_
              rotate_left
              · go_big_quiet_op
                apply Exists.intro
                refine ⟨fun y => ?_, ?_⟩
                · exact ((cA y.now ((S6.out.bw x.bw).bw y.bw)).out.mono fun _ _ h => ⟨h.1, y, h.2.symm⟩)
                · exact hK
              refine hoist [] [] (a1 := ?_) 12 rfl (by kernel_rfl) (.inl ⟨rfl, rfl⟩) rfl rfl rfl (fun x K hK => ?_) ?_
              rotate_left
              · go_big_quiet_op
                exact hK
              refine hoist [] [] (a1 := ?_) 13 rfl (by kernel_rfl) (.inl ⟨rfl, rfl⟩) rfl rfl rfl (fun x K hK => ?_) ?_
              rotate_left
              · go_big_quiet_op
                exact hK
              refine tail 14 rfl (by kernel_rfl) rfl (fun xr => ?_)
              simp only [List.drop_succ_cons, List.drop_zero]
              have O7 := Lib.hid (O6.out.bw xr.bw)
              have hgw : gb ≤ wr.heap.size := by have := B6.out.size; omega
              have B7 := Lib.hid (B6.out.trans (xr.ok.below (B := gb) hgw (by simp)))
              clear fa fb cA S6 O6 B6
              obtain ⟨g, o1, cap1, he, hbg, hlt, _, _, hcell, hfz⟩ := O7.out.form (by omega)
              cases he
              have hcx := hcell k hkn
              rw [hgt.out] at hcx
              have hfz2 := hfz (0 + k)
              have O8 := Lib.hid (O7.out.set k hkn (y ^^^ z) hyx)
              have B8 := Lib.hid (Below.set3 B7.out (b := gb) (o := 0 + k) hbg (.int .u8 (y ^^^ z : Nat)))
              rw [hx.out] at O8
              simp only [Nat.zero_add] at hcx hfz2 O8 B8
              clear hcell hfz O7 B7
              go_wp2_with fail
              go_roundg (N - (k + 1))
              case measure => omega
              case rel => exact ⟨k + 1, by omega, by omega, by push_cast; rfl, O8, B8⟩
            · obtain rfl : k = N := by omega
              have d3 : decide ((k : Int) < (k : Int)) = false := by simp
              rw [hfx.out] at O6
              go_wp2_with fail
              go_roundg (j - (q + 1))
              case measure => omega
              case rel => exact ⟨q + 1, by omega, by omega, by push_cast; rfl, O6, B6⟩
        · obtain rfl : q = j := by omega
          have d2 : decide ((q : Int) < (q : Int)) = false := by simp
          have hfe : fitN N (xorR rows) = xorR rows := by rw [← hNd.out]; exact fit_self _
          rw [hall.out, hfe] at O
          go_wp2_with fail
          go_ret
          rw [hgb, hNd.out]
          exact ⟨_, rfl, O.out, B.out⟩
end Go.Proofs.Ytgiajnfmjpdodaa
