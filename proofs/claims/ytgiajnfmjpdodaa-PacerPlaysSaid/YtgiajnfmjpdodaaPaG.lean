/- The document's example of the pacer; own bytes stay the caller's. No condition. -/
import Derived.Test.YtgiajnfmjpdodaaPaF
import Derived.Test.YtgiajnfmjpdodaaBst
namespace Go.Proofs.Ytgiajnfmjpdodaa
open Go.RowKit

theorem BW.stP {a b c : World} (h : BW a b) {S : List Nat} (t : Still S b c) (hS : ∀ k ∈ S, a.heap.size ≤ k) : BW a c := h.step (t.below (B := a.heap.size) h.size hS) (Nat.le_refl _)
/-- Stores into blocks from before leave the queues be. -/
theorem PQ.stillL {w w' : World} {base : Nat} {v : Value} {n : Nat} {l : List (Int × List Nat)} (h : PQ w base v n l) {S : List Nat} (hs : Still S w w') (hS : ∀ k ∈ S, k < base) : PQ w' base v n l := by
  obtain ⟨h0, xs, h1, h2⟩ := h
  exact ⟨h0, xs, h1.still hs (fun k hk hm => by have := (h1.lt k hk).1; have := hS k hm; omega), h2.mono (fun v n b hO => hO.still hs (fun k hk hm => by have := hO.ge' k hk; have := hS k hm; omega))⟩
theorem PacV.stillL {w w' : World} {base g gb : Nat} {vs : List Value} {S : PcS} (h : PacV w base g gb vs S) {T : List Nat} (hs : Still T w w') (hS : ∀ k ∈ T, k < base) (hg : g ∉ T) (hb : gb ∉ T) : PacV w' base g gb vs S :=
  ⟨hp_st hs h.cells hg, hp_st hs h.bk hb, h.vl, h.ql, fun c hc => (h.pq c hc).stillL hs hS, h.apt⟩
theorem blks_ge {w : World} {base g gb : Nat} {vs : List Value} {S : PcS} (h : PacV w base g gb vs S) : ∀ k ∈ blks vs, base ≤ k := fun k hk => by
  obtain ⟨u, hu, hk⟩ := List.mem_flatMap.1 hk
  obtain ⟨i, hi, e⟩ := List.mem_iff_getElem.1 hu
  have h1 := h.pq i (by rw [← h.vl]; exact hi)
  rw [List.getD_eq_getElem?_getD, List.getElem?_eq_getElem hi] at h1
  refine h1.ge' k ?_
  show vs[i].ownBlock = some k
  rw [e]
  simpa using hk
theorem PacV.fresh {w : World} {base g gb : Nat} {vs : List Value} {S : PcS} (h : PacV w base g gb vs S) {k : Nat} (hk : w.heap.size ≤ k) : k ∉ g :: blks vs := fun hm => by
  rcases List.mem_cons.1 hm with e | hm
  · have := HpB.lt h.cells; omega
  · have := blks_lt h _ hm; omega

def aS1 : PcS := ⟨2, 5, 5, 9, 99, [[], [[1, 2, 3]], [], []], 0⟩
def aS2 : PcS := ⟨2, 5, 5, 9, 99, [[[4, 5]], [[1, 2, 3]], [], []], 0⟩
def aS3 : PcS := ⟨2, 5, 0, 9, 99, [[], [], [], []], 0⟩
theorem aP1 : pushN (newS 2 5 9 99) 1 [1, 2, 3] = (0, aS1) := by kernel_rfl
theorem aP2 : pushN aS1 0 [4, 5] = (0, aS2) := by kernel_rfl
theorem aO : outN aS2 = ([(0, [4, 5]), (1, [1, 2, 3])], aS3) := by kernel_rfl

set_option maxRecDepth 100000 in
set_option maxHeartbeats 8000000 in
theorem pac_alive (w : World) : Calls Try.prog 21 #[] w fun e w' => e = .returned (.bool true) ∧ BW w w' := by
  have cN := Lib.hid (pnew_ok 2 5 9 99 w (by decide) (by decide))
  go_enter Try.func21, Try.ntmps21
  go_wp2_with fail
  refine Calls.mono cN.out ?_
  rintro e w1 ⟨g, gb, rfl, PV, hg, hgb, B1⟩
  have H1 := PV w.heap.size
  clear PV cN
  have W2 : BW w1 (w1.alloc (.cells #[.int .u8 1, .int .u8 2, .int .u8 3] 5)) := (BW.refl _).alloc
  have A2 : AvB (w1.alloc (.cells #[.int .u8 1, .int .u8 2, .int .u8 3] 5)) w1.heap.size 5 [1, 2, 3] := AvB.new w1 5 [1, 2, 3]
  have V2 := A2.sb (by unfold ByL; decide) 3 rfl (by decide)
  have c2 := push_any w.heap.size g gb nil4 (newS 2 5 9 99) 1 (.slice (some ⟨w1.heap.size, 0, none⟩) 3 3) [1, 2, 3] _ (H1.bw W2) ⟨by decide, by decide, by decide, by decide, by decide, by decide⟩ (by decide) (by decide) (Nat.le_trans B1.size W2.size) V2 (by decide) (by decide) (by decide) (by decide) (fun _ k hk => by
    have : w1.heap.size = k := by simpa [Value.ownBlock] using hk
    exact H1.fresh (by omega))
  rw [aP1] at c2
  have T2 := Lib.hid ((B1.trans W2).still [])
  have hge2 : Hid (∀ k ∈ g :: blks nil4, k ∈ ([] : List Nat) ∨ w.heap.size ≤ k) := fun k hk => by
    rcases List.mem_cons.1 hk with rfl | hk
    · exact .inr hg
    · exact .inr (blks_ge H1 k hk)
  clear W2 A2 V2 B1 H1
  replace c2 := Lib.hid c2
  dsimp only
  go_upto_region 2 with (fail)
  go_wp2_with fail
  refine Calls.mono c2.out ?_
  rintro e w2 ⟨rfl, ⟨vs2, H2, -⟩, TS⟩
  replace T2 := T2.out.own3 TS hge2.out
  clear c2 hge2 TS
  have W3 : BW w2 (w2.alloc (.cells #[.int .u8 4, .int .u8 5] 5)) := (BW.refl _).alloc
  have A3 : AvB (w2.alloc (.cells #[.int .u8 4, .int .u8 5] 5)) w2.heap.size 5 [4, 5] := AvB.new w2 5 [4, 5]
  have V3 := A3.sb (by unfold ByL; decide) 2 rfl (by decide)
  have c3 := push_any w.heap.size g gb vs2 aS1 0 (.slice (some ⟨w2.heap.size, 0, none⟩) 2 2) [4, 5] _ (H2.bw W3) ⟨by decide, by decide, by decide, by decide, by decide, by decide⟩ (by decide) (by decide) (Nat.le_trans T2.size W3.size) V3 (by decide) (by decide) (by decide) (by decide) (fun _ k hk => by
    have : w2.heap.size = k := by simpa [Value.ownBlock] using hk
    exact H2.fresh (by omega))
  rw [aP2] at c3
  replace T2 := Lib.hid (T2.own3 (W3.still []) (by simp))
  have hge3 : Hid (∀ k ∈ g :: blks vs2, k ∈ ([] : List Nat) ∨ w.heap.size ≤ k) := fun k hk => by
    rcases List.mem_cons.1 hk with rfl | hk
    · exact .inr hg
    · exact .inr (blks_ge H2 k hk)
  clear W3 A3 V3 H2
  replace c3 := Lib.hid c3
  dsimp only
  go_wp2_with fail
  refine Calls.mono c3.out ?_
  rintro e w3 ⟨rfl, ⟨vs3, H3, -⟩, TS⟩
  replace T2 := Lib.hid (T2.out.own3 TS hge3.out)
  clear c3 hge3 TS
  have c4 := out_any w.heap.size g gb vs3 aS2 w3 H3 ⟨by decide, by decide, by decide, by decide, by decide, by decide⟩ (by decide) (by decide) T2.out.size
  rw [aO] at c4
  clear H3
  replace c4 := Lib.hid c4
  dsimp only
  go_wp2_with fail
  refine Calls.mono c4.out ?_
  rintro e w4 ⟨v, rfl, O, -, -, TS⟩
  have B4 := Lib.hid (BW.ofStill (T2.out.own3 TS (fun k hk => by simp at hk; rcases hk with rfl | rfl <;> right <;> assumption)))
  clear T2 TS c4
  obtain ⟨g1, o1, cap, rfl, _, _, hcap, hmc, hce⟩ := O.form (by decide)
  obtain ⟨u0, _, k0, U0⟩ := hce 0 (by decide)
  obtain ⟨u1, _, k1, U1⟩ := hce 1 (by decide)
  obtain ⟨s0, p0, rfl, _, _⟩ := U0.len
  obtain ⟨s1, p1, rfl, _, _⟩ := U1.len
  clear hce U0 U1 O
  unfold maxLen at hmc
  simp only [Nat.zero_mul, Nat.one_mul, Nat.zero_add, Nat.add_zero, Nat.reduceAdd, Nat.reduceMul, List.getElem_cons_zero, List.getElem_cons_succ, List.length_cons, List.length_nil] at k0 k1 hcap ⊢
  go_wp2_with fail
  go_ret
  exact ⟨rfl, B4.out⟩
end Go.Proofs.Ytgiajnfmjpdodaa
