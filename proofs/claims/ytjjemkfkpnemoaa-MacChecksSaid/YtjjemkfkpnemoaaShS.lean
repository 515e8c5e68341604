/- sha's State in memory; New. No condition. -/
import Derived.Test.YtjjemkfkpnemoaaShT
import Derived.Test.YtjjemkfkpnemoaaNum
namespace Go.Proofs.Ytjjemkfkpnemoaa
open Go.RowKit

theorem h0_w5 : W5 H0 := ⟨rfl, fun i => by
  rcases (show i = 0 ∨ i = 1 ∨ i = 2 ∨ i = 3 ∨ i = 4 ∨ 5 ≤ i by omega) with rfl | rfl | rfl | rfl | rfl | hi
  · decide
  · decide
  · decide
  · decide
  · decide
  · rw [List.getD_eq_getElem?_getD, List.getElem?_eq_none (by simpa [H0] using hi)]; decide⟩
theorem takeH_w5 (H bl : List Nat) : W5 (takeH H bl) := addH_w5 _ _
theorem hfrom_w5 (H l : List Nat) (hH : W5 H) : ∀ k, W5 (hfrom H l k)
  | 0 => hH
  | k + 1 => takeH_w5 _ _

/-- The cells of a State. -/
def stA (H : List Nat) (vl : Value) (n : Int) : Array Value := #[.int .u32 (H.getD 0 0 : Nat), .int .u32 (H.getD 1 0 : Nat), .int .u32 (H.getD 2 0 : Nat), .int .u32 (H.getD 3 0 : Nat), .int .u32 (H.getD 4 0 : Nat), vl, .int .i64 n]
def St (w : World) (g : Nat) (H : List Nat) (vl : Value) (n : Int) : Prop := w.heap[g]? = some (.cells (stA H vl n) 92 (0, 0))
theorem St.left {w : World} {g : Nat} {H : List Nat} {vl : Value} {n : Int} (h : St w g H vl n) : w.cell? ⟨g, 5, none⟩ = some vl := hp_cell h 5
theorem St.size {w : World} {g : Nat} {H : List Nat} {vl : Value} {n : Int} (h : St w g H vl n) : w.cell? ⟨g, 6, none⟩ = some (.int .i64 n) := hp_cell h 6
theorem St.frz {w : World} {g : Nat} {H : List Nat} {vl : Value} {n : Int} (h : St w g H vl n) (i : Nat) : w.frozen? ⟨g, i, none⟩ = false := hp_frz h i
theorem St.set5 {w : World} {g : Nat} {H : List Nat} {vl : Value} {n : Int} (h : St w g H vl n) (u : Value) : St (w.setCell ⟨g, 5, none⟩ u) g H u n := hp_set h 5 u
theorem St.set6 {w : World} {g : Nat} {H : List Nat} {vl : Value} {n : Int} (h : St w g H vl n) (m : Int) : St (w.setCell ⟨g, 6, none⟩ (.int .i64 m)) g H vl m := hp_set h 6 _
theorem St.h {w : World} {g : Nat} {H : List Nat} {vl : Value} {n : Int} (h : St w g H vl n) (hH : H.length = 5) : w.rangeAt g 0 (ivA .u32 H).toList := by
  intro j v hj
  have hlt : j < 5 := by
    have := (List.getElem?_eq_some_iff.1 hj).1
    simpa [ivA, hH] using this
  rw [Array.getElem?_toList, ivA_get .u32 H j (by omega)] at hj
  cases hj
  rw [Nat.zero_add, hp_cell h j]
  rcases (show j = 0 ∨ j = 1 ∨ j = 2 ∨ j = 3 ∨ j = 4 by omega) with rfl | rfl | rfl | rfl | rfl <;> rfl
theorem St.there {w : World} {g : Nat} {H : List Nat} {vl : Value} {n : Int} (h : St w g H vl n) : w.there g 0 5 := fun j hj => by
  refine ⟨?_, hp_frz h _⟩
  rw [Nat.zero_add, hp_cell h j]
  rcases (show j = 0 ∨ j = 1 ∨ j = 2 ∨ j = 3 ∨ j = 4 by omega) with rfl | rfl | rfl | rfl | rfl <;> rfl
theorem St.seth {w : World} {g : Nat} {H : List Nat} {vl : Value} {n : Int} (h : St w g H vl n) (H' : List Nat) (hH : H'.length = 5) : St (w.setCells g 0 (ivA .u32 H').toList) g H' vl n := by
  match H', hH with
  | [a, b, c, d, e], _ => exact hp_set (hp_set (hp_set (hp_set (hp_set h 0 (.int .u32 (a : Nat))) 1 (.int .u32 (b : Nat))) 2 (.int .u32 (c : Nat))) 3 (.int .u32 (d : Nat))) 4 (.int .u32 (e : Nat))
theorem St.still {w w' : World} {g : Nat} {H : List Nat} {vl : Value} {n : Int} {S : List Nat} (h : St w g H vl n) (hs : Still S w w') (hS : g ∉ S) : St w' g H vl n := hp_st hs h hS
theorem still_setCells (w : World) (g o : Nat) (vs : List Value) : Still [g] w (w.setCells g o vs) := by
  obtain ⟨f1, f2, f3, f4⟩ := setCells_frame g vs o w
  exact ⟨f1, f2, f3, by rw [f4]; exact Nat.le_refl _, fun k _ hk => setCells_other g vs o w k (by simpa using hk)⟩
theorem still_setCell (w : World) (g o : Nat) (v : Value) : Still [g] w (w.setCell ⟨g, o, none⟩ v) := still_setCells w g o [v]

/-- The state of a sum, m of whose bytes are in. -/
structure StV (w : World) (base g : Nat) (m : List Nat) (vl : Value) : Prop where
  b : base ≤ g
  by_ : ByL m
  st : St w g (hfrom H0 m (m.length / 64)) vl m.length
  lf : OB w base 5 vl (m.length % 64) (m.drop (64 * (m.length / 64)))
theorem StV.still {w w' : World} {base g : Nat} {m : List Nat} {vl : Value} {S : List Nat} (h : StV w base g m vl) (hs : Still S w w') (h1 : g ∉ S) (h2 : ∀ k, vl.ownBlock = some k → k ∉ S) : StV w' base g m vl :=
  ⟨h.b, h.by_, h.st.still hs h1, h.lf.still hs h2⟩
theorem StV.below {w w' : World} {base g : Nat} {m : List Nat} {vl : Value} {B : Nat} (h : StV w base g m vl) (hb : Below B w w') (hB : w.heap.size ≤ B) : StV w' base g m vl :=
  h.still (Still.of_below (S := []) (hb.mono hB)) (by simp) (by simp)
theorem StV.alloc {w : World} {base g : Nat} {m : List Nat} {vl : Value} (h : StV w base g m vl) (o : Obj) : StV (w.alloc o) base g m vl := h.below ((Below.refl _ _).alloc (Nat.le_refl _) o) (Nat.le_refl _)
theorem StV.up {w : World} {base base' g : Nat} {m : List Nat} {vl : Value} (h : StV w base g m vl) (hb : base' ≤ base) : StV w base' g m vl := ⟨Nat.le_trans hb h.b, h.by_, h.st, h.lf.up hb⟩
theorem StV.lt {w : World} {base g : Nat} {m : List Nat} {vl : Value} (h : StV w base g m vl) : g < w.heap.size := hp_lt h.st
/-- The blocks that writing on may turn. -/
def stS (g : Nat) (vl : Value) : List Nat := g :: vl.ownBlock.toList
theorem StV.ge {w : World} {base g : Nat} {m : List Nat} {vl : Value} (h : StV w base g m vl) : ∀ k ∈ stS g vl, base ≤ k := fun k hk => by
  rcases List.mem_cons.1 hk with rfl | hk
  · exact h.b
  · exact (h.lf.2.2.lt k (in_toList hk)).1

set_option maxRecDepth 100000 in
set_option maxHeartbeats 4000000 in
theorem first_any (w : World) : Calls Try.prog 64 #[] w fun e w' => e = .returned (.agg (ivA .u32 H0)) ∧ Below w.heap.size w w' := by
  go_enter Try.func64, Try.ntmps64
  have hp : Hid ((ivA .u32 H0).size = 5) := rfl
  have hz : Hid ((ivA .u32 (zeros 5)).size = 5) := rfl
  have e0 : (#[Value.int .u32 1732584193, .int .u32 4023233417, .int .u32 2562383102, .int .u32 271733878, .int .u32 3285377520] : Array Value) = ivA .u32 H0 := rfl
  have hB : Hid (Below w.heap.size w (w.alloc (.cells (ivA .u32 H0) 89))) := (Below.refl _ _).alloc (Nat.le_refl _) _
  have hN : Hid ((w.alloc (.cells (ivA .u32 H0) 89)).heap[w.heap.size]? = some (.cells (ivA .u32 H0) 89 (0, 0))) := hp_new _ _ _ rfl
  generalize hH : H0 = HH at *
  go_wp2_with (first | (refine wpList_alloc_of rfl 89 rfl _ zero5 ?_) | (refine wpList_store_new rfl 89 _ _ rfl _ (ivA .u32 HH) _ rfl (by first | rfl | exact e0) (by rw [info5, hp.out]) (by rw [hz.out, hp.out]) (ivA_one _ _) ?_))
  try simp only [Act.put, List.setIfInBounds_toArray, List.set_cons_succ, List.set_cons_zero]
  exact bodyPost_ret (results_cell_row (p := 0) rfl _ _ w.heap.size _ _ _ _ rfl hN.out Try.underlying89 rfl (by rw [info5, hp.out])) rfl ⟨rfl, hB.out⟩

set_option maxRecDepth 100000 in
set_option maxHeartbeats 4000000 in
theorem shanew_any (w : World) : Calls Try.prog 29 #[] w fun e w' => ∃ g, e = .returned (.pointer (some ⟨g, 0, none⟩)) ∧ StV w' w.heap.size g [] (.slice none 0 0) ∧ Below w.heap.size w w' := by
  go_enter Try.func29, Try.ntmps29
  go_wp2_with fail
  refine (first_any _).mono ?_
  rintro e w1 ⟨rfl, hb⟩
  replace hb := Lib.hid hb
  rw [show ivA .u32 H0 = #[.int .u32 1732584193, .int .u32 4023233417, .int .u32 2562383102, .int .u32 271733878, .int .u32 3285377520] from rfl]
  go_wp2_with fail
  go_ret
  refine ⟨_, rfl, ⟨hb.out.size, by simp [ByL], hp_new _ _ _ rfl, OB.nil _ _ _⟩, hb.out.alloc hb.out.size _⟩
end Go.Proofs.Ytjjemkfkpnemoaa
