/- slices.Compact of numbers of 32 bits: its length is the list's just if no two neighbours are the same. No condition but the sizes'. -/
import Derived.Test.YtafhnlnhflehhaaGreatDoorOfM
import Derived.Shelf.SlicesE.Compact
namespace Go.Proofs.YtafhnlnhflehhaaGreatDoor
open Go.RowKit
theorem comp_len_all (d : Array Nat) (m : Nat) : (Lib.compactUpTo d m).length = m ↔ ∀ j, j < m → Lib.keeps d j = true := by
 unfold Lib.compactUpTo
 rw [List.length_map]
 constructor
 ·intro h j hj
  have h2 : ((List.range m).filter (Lib.keeps d)).length = (List.range m).length := by rw [h, List.length_range]
  exact List.length_filter_eq_length_iff.1 h2 j (List.mem_range.2 hj)
 ·intro h
  have h2 : ((List.range m).filter (Lib.keeps d)).length = (List.range m).length := List.length_filter_eq_length_iff.2 fun j hj => h j (List.mem_range.1 hj)
  rw [h2, List.length_range]
theorem comp_le (d : Array Nat) (m : Nat) : (Lib.compactUpTo d m).length ≤ m := by
 unfold Lib.compactUpTo
 rw [List.length_map]
 have := List.length_filter_le (Lib.keeps d) (List.range m)
 rwa [List.length_range] at this
theorem arr_getD (L : List Nat) (j : Nat) : (L.toArray)[j]! = L.getD j 0 := by
 unfold List.getD
 by_cases h : j < L.length
 ·rw [getElem!_pos _ _ (by simpa using h), List.getElem?_eq_getElem h]; simp
 ·rw [getElem!_neg _ _ (by simpa using h), List.getElem?_eq_none (by omega)]; rfl
theorem comp_nodup (L : List Nat) (hs : SrtR L 0 L.length) : (Lib.compactUpTo L.toArray L.length).length = L.length ↔ L.Nodup := by
 rw [comp_len_all]
 have key : ∀ j, Lib.keeps L.toArray j = true ↔ (j = 0 ∨ L.getD j 0 ≠ L.getD (j - 1) 0) := fun j => by
  unfold Lib.keeps
  rw [decide_eq_true_iff, arr_getD, arr_getD]
 constructor
 ·intro h
  rw [List.Nodup, List.pairwise_iff_getElem]
  intro i j hi hj hij e
  have k := (key j).1 (h j hj)
  have e1 : L.getD i 0 = L.getD j 0 := by rw [getD_lt hi, getD_lt hj]; exact e
  have s1 := hs (j - 1) j (by omega) (by omega) hj
  have s2 : L.getD i 0 ≤ L.getD (j - 1) 0 := by
   by_cases q : i = j - 1
   ·rw [q]; exact Nat.le_refl _
   ·exact hs i (j - 1) (by omega) (by omega) (by omega)
  rcases k with k | k
  ·omega
  ·omega
 ·intro h j hj
  rw [key]
  by_cases q : j = 0
  ·exact Or.inl q
  ·right
   rw [List.Nodup, List.pairwise_iff_getElem] at h
   have := h (j - 1) j (by omega) hj (by omega)
   rw [getD_lt hj, getD_lt (show j - 1 < L.length by omega)]
   exact fun e => this e.symm
def encU (x : Nat) : Value := .int .u32 (x : Nat)
theorem st_put (w : World) (g o q : Nat) (d : Array Nat) : Still [g] w (Sort.putRow encU (Sort.ahead w q) g o d) := by
 refine ⟨rfl, rfl, rfl, by simp [Sort.putRow, Sort.mapBlock, Sort.ahead], fun k hk hs => ?_⟩
 simp only [Sort.putRow, Sort.mapBlock, Sort.ahead, Array.getElem?_modify]
 rw [if_neg (fun e => hs (by simp [e]))]
def laysComp_ren : Go.Shelf.Ren := ⟨fun | 43 => 47 | n => n, fun | 22 => 39 | 23 => 38 | 3 => 3 | 4 => 4 | 0 => 0 | n => n, fun | n => n⟩
theorem laysComp : Go.Proofs.SlLaysE.n43 Tryz.prog laysComp_ren := {
 mixed := by kernel_rfl
 f43 := ⟨Tryz.f47.name, by decide, Tryz.func47.trans (congrArg some (by kernel_rfl))⟩
 t0 := Tryz.underlying0
 a0 := Tryz.isAgg0
 z0 := Tryz.sizeOf0
 v0 := Tryz.zeroValue0
 t3 := Tryz.underlying3
 a3 := Tryz.isAgg3
 z3 := Tryz.sizeOf3
 v3 := Tryz.zeroValue3
 t4 := Tryz.underlying4
 a4 := Tryz.isAgg4
 z4 := Tryz.sizeOf4
 v4 := Tryz.zeroValue4
 t22 := Tryz.underlying39
 a22 := Tryz.isAgg39
 z22 := Tryz.sizeOf39
 v22 := Tryz.zeroValue39
 a23 := Tryz.isAgg38
 z23 := Tryz.sizeOf38 }
set_option maxRecDepth 100000 in
set_option maxHeartbeats 8000000 in
theorem compact_any (base g o n cap : Nat) (L : List Nat) (hn : n ≤ 1000000) (w : World) (h : EQ EU4 38 w base (.slice (some ⟨g, o, none⟩) n cap) n L) (h0 : 0 < n) :
  Calls Tryz.prog 47 #[.slice (some ⟨g, o, none⟩) n cap] w fun e w' => ∃ m : Nat, e = .returned (.slice (some ⟨g, o, none⟩) m cap) ∧ m ≤ n ∧ m = (Lib.compactUpTo L.toArray n).length ∧ Still [g] w w' ∧ (m = n → BW w w') := by
 have hl := h.1
 obtain ⟨_, _, he, hcn, hcm⟩ := h.len
 cases he
 unfold maxLen at hcm
 have hH : Sort.Holds encU w g o L.toArray := fun j hj => by
  have hj' : j < n := by rw [← hl]; simpa using hj
  refine ⟨?_, h.frz h0 _⟩
  rw [u4_cell h j hj', arr_getD]
  rfl
 have heq : EqlAt Tryz.prog (laysComp_ren.t 23) encU (fun x y => decide (x = y)) := ⟨fun x y w => by
  have := (EqlAt.intD Tryz.prog (laysComp_ren.t 23) .u32).1 (x : Nat) (y : Nat) w
  dsimp only at this
  rw [show (decide ((x : Int) = (y : Int))) = decide (x = y) from decide_eq_decide.2 Int.ofNat_inj] at this
  exact this, fun op a b x y w => (EqlAt.intD Tryz.prog (laysComp_ren.t 23) .u32).2 op a b (x : Nat) (y : Nat) w⟩
 have hne : NeqAt Tryz.prog (laysComp_ren.t 23) encU (fun x y => decide (x = y)) := ⟨fun x y w => by
  have := (NeqAt.intD Tryz.prog (laysComp_ren.t 23) .u32).1 (x : Nat) (y : Nat) w
  dsimp only at this
  rw [show (decide ((x : Int) = (y : Int))) = decide (x = y) from decide_eq_decide.2 Int.ofNat_inj] at this
  exact this, fun op a b x y w => (NeqAt.intD Tryz.prog (laysComp_ren.t 23) .u32).2 op a b (x : Nat) (y : Nat) w⟩
 have X := AnyE.slices_Compact laysComp encU (fun _ => rfl) heq hne 0 (fun w => Tryz.zeroValue38 w) g o cap L.toArray w hH (by simp; omega) (by simp; omega)
 have hsz : L.toArray.size = n := by simp [hl]
 rw [hsz] at X
 refine Calls.mono X ?_
 rintro e w' ⟨rfl, q, rfl⟩
 refine ⟨_, rfl, comp_le _ _, rfl, st_put .., fun hm => ?_⟩
 have e1 : Lib.compactUpTo L.toArray n = L := by
  rw [Lib.compactUpTo_all _ _ ((comp_len_all _ _).1 hm), ← hsz, Lib.range_map_get]
 rw [hm, Nat.sub_self, List.replicate_zero, List.append_nil, e1, Sort.putRow_self encU (Sort.ahead w q) g o L.toArray (Sort.holds_ahead encU w q g o _ hH)]
 exact ⟨rfl, rfl, rfl, Nat.le_refl _, fun _ _ => rfl⟩
end Go.Proofs.YtafhnlnhflehhaaGreatDoor
