/- Packets put into order: is there an element for which a function tells true. No condition but the sizes'. -/
import Derived.Test.YtcempndfbckcaaaReI
namespace Go.Proofs.Ytcempndfbckcaaa
open Go.RowKit

/-- A function of one element that turns nothing. -/
def AskE (F : FuncId) (caps : List Value) (p : Ent → Bool) (L : List Ent) (w : World) : Prop :=
  ∀ (E : Ent) (_ : E ∈ L) (s : Option Addr) (cb : Nat) (wx : World), BW w wx → Calls Try.prog F (.agg #[.int .i64 E.i, .slice s E.b.length cb, .int .i64 E.c] :: caps).toArray wx fun e w' => e = .returned (.bool (p E)) ∧ BW wx w'
set_option maxRecDepth 100000 in
set_option maxHeartbeats 8000000 in
theorem qidx_any (base n : Nat) (v : Value) (L : List Ent) (F : FuncId) (caps : List Value) (p : Ent → Bool) (w : World) (h : EQ EN 131 w base v n L) (hn : n ≤ 1000000) (hF : AskE F caps p L w) (hN : ∀ (args : Array Value) (w : World), (callFunc F args).run Try.prog w = .ok (.enter F args) w) :
    Calls Try.prog 102 #[v, .func (.func F) #[] caps.toArray] w fun e w' => (∃ r : Int, e = .returned (.int .i64 r) ∧ decide (0 ≤ r) = L.any p) ∧ BW w w' := by
  obtain ⟨sa, cap, rfl, hnc, hcm⟩ := h.len
  unfold maxLen at hcm
  have hH := Lib.hid h
  have hdl := Lib.hid h.1
  have hFF := Lib.hid hF
  clear h hF
  have hA : L.any p = (L.drop 0).any p := by rw [List.drop_zero]
  generalize L.any p = R at *
  replace hA := Lib.hid hA
  go_enter Try.func102, Try.ntmps102
  go_upto_region 2 with (fail)
  go_loopg [8] n (fun m' i wx => ∃ k : Nat, m' = n - k ∧ k ≤ n ∧ i = .int .i64 (k : Nat) ∧ Hid (R = (L.drop k).any p) ∧ Hid (BW w wx))
  case atStart => exact ⟨0, by omega, by omega, rfl, hA, BW.refl _⟩
  case round =>
    clear hA
    obtain ⟨k, rfl, hk, rfl, hA, B⟩ := hrel
    by_cases hkn : k < n
    · have d : decide ((k : Int) < (n : Int)) = true := by simp; omega
      have hkD : k < L.length := by rw [hdl.out]; exact hkn
      obtain ⟨g, o, rfl, -, hc⟩ := en_form (hH.out.bw B.out) (by omega)
      obtain ⟨s, cb, z0, z1, z2, -⟩ := hc k hkD
      have hA2 := hA.out
      rw [List.drop_eq_getElem_cons hkD, List.any_cons] at hA2
      have cF := Lib.hid (hFF.out L[k] (List.getElem_mem _) s cb wr B.out)
      clear hc hA
      generalize L[k] = E at *
      generalize E.b.length = bl at *
      replace hA2 := Lib.hid hA2
      go_wp2_with fail
      refine Calls.mono cF.out ?_
      rintro e w2 ⟨rfl, hb⟩
      have B2 := Lib.hid (B.out.trans hb)
      clear cF z0 z1 z2 hb B
      dsimp only
      cases hq : p E with
      | true =>
        have hR : R = true := by rw [hA2.out, hq]; rfl
        replace hR := Lib.hid hR
        replace hA2 := Lib.hid hA2
        replace hq := Lib.hid hq
        go_wp2_with fail
        go_ret
        exact ⟨⟨_, rfl, by rw [hR.out]; simp⟩, B2.out⟩
      | false =>
        have hR : R = (L.drop (k + 1)).any p := by rw [hA2.out, hq]; rfl
        replace hR := Lib.hid hR
        replace hA2 := Lib.hid hA2
        replace hq := Lib.hid hq
        go_wp2_with fail
        go_roundg (n - (k + 1))
        case measure => omega
        case rel => exact ⟨k + 1, rfl, by omega, by push_cast; rfl, hR, B2⟩
    · obtain rfl : k = n := by omega
      have d : decide ((k : Int) < (k : Int)) = false := by simp
      have hR : R = false := by rw [hA.out, List.drop_of_length_le (by rw [hdl.out]; exact Nat.le_refl _)]; rfl
      replace hR := Lib.hid hR
      go_wp2_with fail
      go_ret
      exact ⟨⟨_, rfl, by rw [hR.out]; decide⟩, B.out⟩
set_option maxRecDepth 100000 in
set_option maxHeartbeats 8000000 in
theorem qhas_any (base n : Nat) (v : Value) (L : List Ent) (F : FuncId) (caps : List Value) (p : Ent → Bool) (w : World) (h : EQ EN 131 w base v n L) (hn : n ≤ 1000000) (hF : AskE F caps p L w) (hN : ∀ (args : Array Value) (w : World), (callFunc F args).run Try.prog w = .ok (.enter F args) w) :
    Calls Try.prog 73 #[v, .func (.func F) #[] caps.toArray] w fun e w' => e = .returned (.bool (L.any p)) ∧ BW w w' := by
  have c := Lib.hid (qidx_any base n v L F caps p w h hn hF hN)
  obtain ⟨sa, cap, rfl, hnc, hcm⟩ := h.len
  clear h hF hN
  generalize L.any p = b at *
  go_enter Try.func73, Try.ntmps73
  go_wp2_with fail
  refine Calls.mono c.out ?_
  rintro e w2 ⟨⟨r, rfl, hr⟩, hb⟩
  replace hb := Lib.hid hb
  dsimp only
  go_wp2_with fail
  go_ret
  exact ⟨rfl, hb.out⟩
def lateE (tick wait : Int) (E : Ent) : Bool := decide (wait < tick - E.c)
set_option maxRecDepth 100000 in
set_option maxHeartbeats 8000000 in
theorem late1_any (g0 bt bx : Nat) (tick wait : Int) (w : World) (ht : w.cell? ⟨bt, 0, none⟩ = some (.int .i64 tick)) (hx : w.cell? ⟨bx, 0, none⟩ = some (.pointer (some ⟨g0, 0, none⟩))) (hw : w.cell? ⟨g0, 1, none⟩ = some (.int .i64 wait)) (E : Ent) (s : Option Addr) (cb : Nat) (hE : -2305843009213693952 ≤ tick - E.c ∧ tick - E.c ≤ 4611686018427387904) (wx : World) (B : BW w wx) :
    Calls Try.prog 104 #[.agg #[.int .i64 E.i, .slice s E.b.length cb, .int .i64 E.c], .pointer (some ⟨bt, 0, none⟩), .pointer (some ⟨bx, 0, none⟩)] wx fun e w' => e = .returned (.bool (lateE tick wait E)) ∧ BW wx w' := by
  have q : lateE tick wait E = decide (wait < tick - E.c) := rfl
  generalize lateE tick wait E = r at *
  generalize E.b.length = bl at *
  have B2 : BW wx (wx.alloc (.cells #[.int .i64 E.i, .slice s bl cb, .int .i64 E.c] 131)) := (BW.refl wx).alloc
  have mc := (hp_cell (HpB.new wx (.cells #[.int .i64 E.i, .slice s bl cb, .int .i64 E.c] 131)) 2).trans rfl
  have B3 := B.trans B2
  replace ht := B3.cell ht
  replace hx := B3.cell hx
  replace hw := B3.cell hw
  replace q := Lib.hid q
  replace B2 := Lib.hid B2
  clear B B3
  go_enter Try.func104, Try.ntmps104
  go_upto_region 1 with (fail)
  generalize wx.alloc (.cells #[.int .i64 E.i, .slice s bl cb, .int .i64 E.c] 131) = w1 at *
  generalize wx.heap.size = g at *
  have m0 : ∀ y : LaterS [] w1, _ := fun y => y.bw.cell ht
  have m1 : ∀ y : LaterS [] w1, _ := fun y => y.bw.cell hx
  have m2 : ∀ y : LaterS [] w1, _ := fun y => y.bw.cell hw
  have m3 : ∀ y : LaterS [] w1, _ := fun y => y.bw.cell mc
  clear ht hx hw mc
  refine wp_region_gg [] [] [] (by kernel_rfl) ?_
  refine hoist [] [] (a1 := ?_) 0 rfl (by kernel_rfl) (.inl ⟨rfl, rfl⟩) rfl rfl rfl (fun x K hK => ?_) ?_
  rotate_left
  · go_big_quiet_op
    exact hK
  refine hoist [] [] (a1 := ?_) 1 rfl (by kernel_rfl) (.inl ⟨rfl, rfl⟩) rfl rfl rfl (fun x K hK => ?_) ?_
  rotate_left
  · go_big_quiet_op
    exact hK
  refine hoist [] [] (a1 := ?_) 2 rfl (by kernel_rfl) (.inl ⟨rfl, rfl⟩) rfl rfl rfl (fun x K hK => ?_) ?_
  rotate_left
  · go_big_quiet_op
    exact hK
  refine hoist [] [] (a1 := ?_) 3 rfl (by kernel_rfl) (.inl ⟨rfl, rfl⟩) rfl rfl rfl (fun x K hK => ?_) ?_
  rotate_left
  · go_big_quiet_op
    exact hK
  refine hoist [] [] (a1 := ?_) 4 rfl (by kernel_rfl) (.inl ⟨rfl, rfl⟩) rfl rfl rfl (fun x K hK => ?_) ?_
  rotate_left
  · go_big_quiet_op
    exact hK
  refine hoist [] [] (a1 := ?_) 5 rfl (by kernel_rfl) (.inl ⟨rfl, rfl⟩) rfl rfl rfl (fun x K hK => ?_) ?_
  rotate_left
  · go_big_quiet_op
    exact hK
  refine hoist [] [] (a1 := ?_) 6 rfl (by kernel_rfl) (.inl ⟨rfl, rfl⟩) rfl rfl rfl (fun x K hK => ?_) ?_
  rotate_left
  · go_big_quiet_op
    exact hK
  refine hoist [] [] (a1 := ?_) 7 rfl (by kernel_rfl) (.inl ⟨rfl, rfl⟩) rfl rfl rfl (fun x K hK => ?_) ?_
  rotate_left
  · go_big_quiet_op
    exact hK
  refine hoist [] [] (a1 := ?_) 8 rfl (by kernel_rfl) (.inl ⟨rfl, rfl⟩) rfl rfl rfl (fun x K hK => ?_) ?_
  rotate_left
  · go_big_quiet_op
    exact hK
  refine hoist [] [] (a1 := ?_) 9 rfl (by kernel_rfl) (.inl ⟨rfl, rfl⟩) rfl rfl rfl (fun x K hK => ?_) ?_
  rotate_left
  · go_big_quiet_op
    exact hK
  refine done (by kernel_rfl) (fun xr => ?_)
  have B4 := Lib.hid (B2.out.trans xr.bw)
  go_wp2_with fail
  go_ret
  exact ⟨by rw [q.out]; rfl, B4.out⟩
def isE (i : Int) (E : Ent) : Bool := E.i == i
set_option maxRecDepth 100000 in
set_option maxHeartbeats 8000000 in
theorem put1_any (bi : Nat) (i : Int) (w : World) (hi : w.cell? ⟨bi, 0, none⟩ = some (.int .i64 i)) (E : Ent) (s : Option Addr) (cb : Nat) (wx : World) (B : BW w wx) :
    Calls Try.prog 74 #[.agg #[.int .i64 E.i, .slice s E.b.length cb, .int .i64 E.c], .pointer (some ⟨bi, 0, none⟩)] wx fun e w' => e = .returned (.bool (isE i E)) ∧ BW wx w' := by
  have q : isE i E = (E.i == i) := rfl
  generalize isE i E = r at *
  generalize E.b.length = bl at *
  have B2 : BW wx (wx.alloc (.cells #[.int .i64 E.i, .slice s bl cb, .int .i64 E.c] 131)) := (BW.refl wx).alloc
  have mc := (hp_cell (HpB.new wx (.cells #[.int .i64 E.i, .slice s bl cb, .int .i64 E.c] 131)) 0).trans rfl
  have B3 := B.trans B2
  replace hi := B3.cell hi
  replace q := Lib.hid q
  replace B2 := Lib.hid B2
  clear B B3
  go_enter Try.func74, Try.ntmps74
  go_upto_region 1 with (fail)
  generalize wx.alloc (.cells #[.int .i64 E.i, .slice s bl cb, .int .i64 E.c] 131) = w1 at *
  generalize wx.heap.size = g at *
  go_wp2_with fail
  go_ret
  exact ⟨by rw [q.out]; rfl, B2.out⟩
end Go.Proofs.Ytcempndfbckcaaa
