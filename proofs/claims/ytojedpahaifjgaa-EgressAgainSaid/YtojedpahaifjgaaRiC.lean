/- Rings: New, find, Get, Len, Size, Indices; copies of packets. No condition but the sizes'. -/
import Derived.Test.YtojedpahaifjgaaRiB
import Derived.Test.YtojedpahaifjgaaCln
namespace Go.Proofs.Ytojedpahaifjgaa
open Go.RowKit

theorem pk_form {T : TypeId} {w : World} {base : Nat} {sv : Option Addr} {n cap : Nat} {L : PL} (h : EQ IB T w base (.slice sv n cap) n L) (h0 : 0 < n) :
    ∃ g o, sv = some ⟨g, o, none⟩ ∧ ∀ i (hi : i < L.length), ∃ u, w.cell? ⟨g, o + i * 2, none⟩ = some (.int .i64 (cl L i)) ∧ w.cell? ⟨g, o + i * 2 + 1, none⟩ = some u ∧ OB w base 5 u (L[i]).2.length (L[i]).2 := by
  obtain ⟨g, o, cap', hsl, _, _, _, _, hce⟩ := h.form h0
  simp only [Value.slice.injEq] at hsl
  refine ⟨g, o, hsl.1, fun i hi => ?_⟩
  obtain ⟨c, ⟨u, hc, hu⟩, hcc⟩ := hce i hi
  have z0 := hcc 0 (by decide)
  have z1 := hcc 1 (by decide)
  rw [hc] at z0 z1
  have e2 : IB.size = 2 := rfl
  rw [e2] at z0 z1
  refine ⟨u, ?_, ?_, hu⟩
  · rw [cl_get hi]; exact z0
  · exact z1
structure RingV (w : World) (base g : Nat) (pk by_ : Int) (v : Value) (L : PL) : Prop where
  cells : HpB w g (.cells #[.int .i64 pk, .int .i64 by_, v, .int .i64 (lensL L : Nat)] 140)
  q : EQ IB 158 w base v L.length L
theorem RingV.bw {w w' : World} {base g : Nat} {pk by_ : Int} {v : Value} {L : PL} (h : RingV w base g pk by_ v L) (hb : BW w w') : RingV w' base g pk by_ v L := ⟨h.cells.bw hb, h.q.bw hb⟩
theorem RingV.still {w w' : World} {base g : Nat} {pk by_ : Int} {v : Value} {L : PL} (h : RingV w base g pk by_ v L) {S : List Nat} (hs : Still S w w') (hS : ∀ k ∈ S, NoB w k) (hg : g ∉ S) (hv : ∀ k, v.ownBlock = some k → k ∉ S) : RingV w' base g pk by_ v L := ⟨h.cells.st hs hg, h.q.still hs hS hv⟩
theorem RingV.old {w w' : World} {base g : Nat} {pk by_ : Int} {v : Value} {L : PL} (h : RingV w base g pk by_ v L) {S : List Nat} (hs : Still S w w') (hS : ∀ k ∈ S, k < base) (hg : g ∉ S) : RingV w' base g pk by_ v L := ⟨h.cells.st hs hg, h.q.old hs hS⟩
theorem RingV.noB {w : World} {base g : Nat} {pk by_ : Int} {v : Value} {L : PL} (h : RingV w base g pk by_ v L) : ∀ k ∈ [g], NoB w k := fun k hk => by
  obtain rfl : k = g := by simpa using hk
  exact .inr ⟨_, _, _, h.cells, by decide⟩

theorem ring_no (pk by_ : Int) (w : World) (h : pk < 1 ∨ by_ < 0) :
    Calls Try.prog 33 #[.int .i64 pk, .int .i64 by_] w fun e w' => e = .returned (.pointer none) ∧ w = w' := by
  by_cases hp : pk < 1
  · have d1 : decide (pk < 1) = true := by simpa using hp
    go_enter Try.func33, Try.ntmps33
    go_wp2_with fail
    go_ret
    exact ⟨rfl, rfl⟩
  · have d1 : decide (pk < 1) = false := by simpa using hp
    have d2 : decide (by_ < 0) = true := by simp; omega
    go_enter Try.func33, Try.ntmps33
    go_wp2_with fail
    go_ret
    exact ⟨rfl, rfl⟩
theorem ring_new (pk by_ : Int) (w : World) (h1 : 1 ≤ pk) (h2 : 0 ≤ by_) :
    Calls Try.prog 33 #[.int .i64 pk, .int .i64 by_] w fun e w' => e = .returned (.pointer (some ⟨w.heap.size, 0, none⟩)) ∧ (∀ base, RingV w' base w.heap.size pk by_ (.slice none 0 0) []) ∧ BW w w' := by
  have d1 : decide (pk < 1) = false := by simp; omega
  have d2 : decide (by_ < 0) = false := by simp; omega
  go_enter Try.func33, Try.ntmps33
  go_wp2_with fail
  go_ret
  exact ⟨rfl, fun base => ⟨hp_new _ _ _ rfl, EQ.nil _ _ _ _⟩, (by repeat (first | exact BW.refl _ | apply BW.alloc | apply BW.drewN | apply BW.drew))⟩
theorem rlen_any (base g : Nat) (pk by_ : Int) (v : Value) (L : PL) (w : World) (h : RingV w base g pk by_ v L) :
    Calls Try.prog 65 #[.pointer (some ⟨g, 0, none⟩)] w fun e w' => e = .returned (.int .i64 (L.length : Nat)) ∧ w = w' := by
  obtain ⟨sv, cv, rfl, hnc, hmc⟩ := h.q.len
  have z2 : w.cell? ⟨g, 2, none⟩ = some (.slice sv L.length cv) := hp_cell h.cells 2
  unfold maxLen at hmc
  clear h
  generalize L.length = n at *
  go_enter Try.func65, Try.ntmps65
  go_wp2_with fail
  go_ret
  exact ⟨rfl, rfl⟩
theorem rsiz_any (base g : Nat) (pk by_ : Int) (v : Value) (L : PL) (w : World) (h : RingV w base g pk by_ v L) :
    Calls Try.prog 66 #[.pointer (some ⟨g, 0, none⟩)] w fun e w' => e = .returned (.int .i64 (lensL L : Nat)) ∧ w = w' := by
  have z3 : w.cell? ⟨g, 3, none⟩ = some (.int .i64 (lensL L : Nat)) := hp_cell h.cells 3
  clear h
  generalize lensL L = n at *
  go_enter Try.func66, Try.ntmps66
  go_wp2_with fail
  go_ret
  exact ⟨rfl, rfl⟩
set_option maxRecDepth 100000 in
set_option maxHeartbeats 8000000 in
theorem find_any (base g : Nat) (pk by_ : Int) (v : Value) (L : PL) (x : Int) (w : World) (h : RingV w base g pk by_ v L) (hs : Srt L) (hn : L.length ≤ 1000000) :
    Calls Try.prog 79 #[.pointer (some ⟨g, 0, none⟩), .int .i64 x] w fun e w' => e = .returned (.tuple #[.int .i64 (lowN L x : Nat), .bool (isAt L x)]) ∧ BW w w' := by
  have z2 : w.cell? ⟨g, 2, none⟩ = some v := hp_cell h.cells 2
  obtain ⟨sv, cv, rfl, hnc, hmc⟩ := h.q.len
  have c := Lib.hid (search_any base _ L.length L x w h.q hs hn)
  clear h
  generalize lowN L x = k at *
  generalize isAt L x = b at *
  go_enter Try.func79, Try.ntmps79
  go_wp2_with fail
  refine Calls.mono c.out ?_
  rintro e w1 ⟨rfl, hb⟩
  dsimp only
  go_wp2_with fail
  go_ret2
  exact ⟨rfl, hb⟩

set_option maxRecDepth 100000 in
set_option maxHeartbeats 8000000 in
theorem clonePk_any (base : Nat) (v : Value) (n : Nat) (L : PL) (w : World) (h : EQ IB 158 w base v n L) (hn : n ≤ 1000000) (hbase : base ≤ w.heap.size) :
    Calls Try.prog 95 #[v] w fun e w' => ∃ v', e = .returned v' ∧ EQ IB 158 w' base v' n L ∧ (∀ k, v'.ownBlock = some k → w.heap.size ≤ k) ∧ BW w w' := by
  obtain ⟨sv, cv, rfl, hnc, hmc⟩ := h.len
  cases sv with
  | none =>
    obtain ⟨h0, xs, ⟨h1, ⟨h2, rfl⟩ | ⟨_, _, _, _, h2, _⟩⟩, h3⟩ := h
    · obtain rfl : L = [] := List.eq_nil_of_length_eq_zero h0
      simp only [Value.slice.injEq, true_and] at h2
      subst h2
      have heq := fun (w : World) => Lib.run_eql_slice_nil (P := Try.prog) w 138 158 none 0 0 0 0 Try.underlying138
      go_enter Try.func95, Try.ntmps95
      go_wp2_with fail
      go_ret
      exact ⟨_, rfl, EQ.nil _ _ _ _, (fun k hk => by cases hk), BW.refl _⟩
    · cases h2
  | some ad =>
    have heq := fun (w : World) => Lib.run_eql_slice_nil (P := Try.prog) w 138 158 (some ad) n cv 0 0 Try.underlying138
    have B1 : BW w (w.alloc (.cells #[] 158)) := (BW.refl w).alloc
    have hg1 : (w.alloc (.cells #[] 158)).heap[w.heap.size]? = some (.cells #[] 158 (0, 0)) := heap_alloc_new _ _
    obtain ⟨h0, ys, h1, h2⟩ := h.bw B1
    have hS := Lib.hid h1.sls
    have hY := Lib.hid h2
    have hb1 := Nat.le_trans hbase B1.size
    have B2 := Lib.hid B1
    replace hg1 := Lib.hid hg1
    replace h0 := Lib.hid h0
    clear h1 h2 h B1
    go_enter Try.func95, Try.ntmps95
    go_wp2_with (at_builtin; go_must (refine wpList_plain rfl fun _ hK => wp_apEQ0 slPk _ _ rfl base w.heap.size rfl hbase hg1.out _ rfl n L ys hS.out hY.out h0.out (by omega) hb1 ?_; intro s5 c5 w5 hc5 hm5 Q5 B5 G5; refine hK _ _ ?_; clear hK; unfold maxLen at hm5; replace Q5 := Lib.hid Q5; replace B5 := Lib.hid B5; replace G5 := Lib.hid G5))
    have hsz := B2.out.size
    go_ret
    exact ⟨_, rfl, Q5.out, fun k hk => by rcases G5.out k hk with h | h <;> omega, B2.out.trans B5.out⟩
def getN (L : PL) (x : Int) : List Nat := if isAt L x = true then (L.getD (lowN L x) (0, [])).2 else []
set_option maxRecDepth 100000 in
set_option maxHeartbeats 8000000 in
theorem get_any (base g : Nat) (pk by_ : Int) (v : Value) (L : PL) (x : Int) (w : World) (h : RingV w base g pk by_ v L) (hs : Srt L) (hn : L.length ≤ 1000000) (hl : lensL L ≤ 1000000000) :
    Calls Try.prog 46 #[.pointer (some ⟨g, 0, none⟩), .int .i64 x] w fun e w' => ∃ u, e = .returned (.tuple #[u, .bool (isAt L x)]) ∧ OB w' w.heap.size 5 u (getN L x).length (getN L x) ∧ BW w w' := by
  have cF := Lib.hid (find_any base g pk by_ v L x w h hs hn)
  have hH := Lib.hid h
  clear h
  go_enter Try.func46, Try.ntmps46
  go_wp2_with fail
  refine Calls.mono cF.out ?_
  rintro e w1 ⟨rfl, hb⟩
  have H1 := Lib.hid (hH.out.bw hb)
  have B1 := Lib.hid hb
  clear hb cF
  dsimp only
  cases hA : isAt L x with
  | false =>
    have hG : getN L x = [] := by unfold getN; rw [hA, if_neg (by decide)]
    replace hG := Lib.hid hG
    replace hA := Lib.hid hA
    go_wp2_with fail
    go_ret2
    refine ⟨.slice none 0 0, by rw [hA.out]; rfl, ?_, B1.out⟩
    rw [hG.out]
    exact OB.nil _ _ _
  | true =>
    have hk := (of_decide_eq_true hA).1
    have hG : getN L x = (L[lowN L x]).2 := by
      unfold getN
      rw [hA, if_pos rfl, List.getD_eq_getElem?_getD, List.getElem?_eq_getElem hk]; rfl
    obtain ⟨sv, cv, rfl, hnc, hmc⟩ := H1.out.q.len
    have z2 : w1.cell? ⟨g, 2, none⟩ = some (.slice sv L.length cv) := hp_cell H1.out.cells 2
    obtain ⟨g1, o1, rfl, hce⟩ := pk_form H1.out.q (by omega)
    obtain ⟨u, z0, z1, hu⟩ := hce _ hk
    obtain ⟨su, cu, rfl, _, _⟩ := hu.len
    have hbl := lensL_get L _ hk
    unfold maxLen at hmc
    generalize hx : L[lowN L x] = p at *
    obtain ⟨pi, pb⟩ := p
    dsimp only at z1 hu hbl hG
    have cC := Lib.hid (clone_ok su pb.length cu pb (by omega) w1 hu.sb)
    clear hce hu
    clear hx
    replace hA := Lib.hid hA
    replace hG := Lib.hid hG
    have hk2 : lowN L x < L.length := hk
    clear hk
    generalize lowN L x = k at *
    generalize L.length = n at *
    go_wp2_with fail
    refine Calls.mono cC.out ?_
    rintro e w2 ⟨v2, rfl, O2, hb⟩
    obtain ⟨s2, c2, rfl, _, _⟩ := O2.len
    have hsz := B1.out.size
    have O3 := Lib.hid (O2.up hsz)
    have B2 := Lib.hid (B1.out.trans hb)
    clear cC O2 hb
    dsimp only
    go_wp2_with fail
    go_ret2
    refine ⟨.slice s2 pb.length c2, by rw [hA.out]; rfl, ?_, B2.out⟩
    rw [hG.out]
    exact O3.out
end Go.Proofs.Ytojedpahaifjgaa
