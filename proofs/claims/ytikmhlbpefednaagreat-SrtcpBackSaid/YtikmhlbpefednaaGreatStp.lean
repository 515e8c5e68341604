/- Single steps of a region that draws its order, each taken by hand: a whole array loaded or stored, a struct built of two arrays, a value boxed. -/
import Derived.Test.YtikmhlbpefednaaGreatGBa
import Derived.Deep.WholeRow
import Derived.Great.FillDense
namespace Go.Proofs.YtikmhlbpefednaaGreat
open Go.RowKit
section
variable {P : Program} {ops : Array Oper} {o : Oper} {a : Act} {w : World} {K : Act → World → Prop} {Q : Exit → Act → World → Prop} {E : Prop}
theorem step_plain (hgd : o.guard = none) (h : Oper.wp P o a w K Q) : if Region.wanted o (yielded ops a.tmps) = true then Oper.wp P o a w K Q else E := by
 have hw : Region.wanted o (yielded ops a.tmps) = true := by simp [Region.wanted, hgd]
 rw [if_pos hw]; exact h
theorem step_load_row (hgd : o.guard = none) (x : Operand) (T : TypeId) (ho : o.op = .load T x)
  (g : Nat) (hx : a.eval x = .pointer (some ⟨g, 0, none⟩)) (t : TypeId) (c : Array Value) (fr : Nat × Nat) (n : Nat) (e : TypeId) (h : w.heap[g]? = some (.cells c t fr)) (hu : P.underlying T = some (.array n e)) (hi : (P.info? T).map (·.size) = some c.size)
  (hk : K (a.put o.dst (.agg c)) w) : if Region.wanted o (yielded ops a.tmps) = true then Oper.wp P o a w K Q else E :=
 step_plain hgd (wp_load_row T x ho g hx t c fr _ h hu rfl hi hk)
theorem step_box (hgd : o.guard = none) (t : TypeId) (x : Operand) (ho : o.op = .box t x) (cells : Array Value) (hx : (a.eval x).cells = cells)
  (h : K (a.put o.dst (.pointer (some ⟨w.heap.size, 0, none⟩))) (w.alloc (.cells cells t))) : if Region.wanted o (yielded ops a.tmps) = true then Oper.wp P o a w K Q else E := by
 subst hx
 refine step_plain hgd ?_
 unfold Oper.wp execOp
 simp only [ho, Sem.run_bind, Instr.box, newVar, newRow, run_newObj_alloc, Sem.run_pure, Result.andThen_ok]
 exact h
theorem step_build (hgd : o.guard = none) (t : TypeId) (parts : List (Nat × Operand)) (ho : o.op = .build t parts.toArray) (cells : Array Value)
  (hf : P.built t (parts.map fun x => (x.1, a.eval x.2)) = some cells) (h : K (a.put o.dst (.agg cells)) w) : if Region.wanted o (yielded ops a.tmps) = true then Oper.wp P o a w K Q else E := by
 have hf' : P.built t (parts.toArray.map fun (i, x) => (i, a.eval x)).toList = some cells := by rw [← hf]; simp
 exact step_plain hgd (wp_build t _ ho (by rw [hf']; rfl) (by rw [hf']; exact h))
theorem fill_two (z A B : Array Value) (n1 n2 : Nat) (h1 : A.size = n1) (h2 : B.size = n2) (hz : z.size = n1 + n2) :
  Instr.fill (fun i => #[(0, n1), (n1, n2)][i]?) z [(0, .agg A), (1, .agg B)] = some (A ++ B) := by
 subst h1 h2
 have c : ∀ v : Array Value, (Value.agg v).cells = v := fun _ => rfl
 have f : ∀ (V z : Array Value) (off : Nat), V.zipIdx.foldl (fun cs (c, j) => cs.setIfInBounds (off + j) c) z = (V.toList.zipIdx 0).foldl (fun cs (x : Value × Nat) => cs.setIfInBounds (off + x.2) x.1) z := fun V z off => by
  rw [← Array.foldl_toList, Array.toList_zipIdx]
 have e0 : #[(0, A.size), (A.size, B.size)][0]? = some (0, A.size) := rfl
 have e1 : #[(0, A.size), (A.size, B.size)][1]? = some (A.size, B.size) := rfl
 unfold Instr.fill
 simp only [c, e0]
 rw [if_neg (by simp; omega), f]
 obtain ⟨g1, g2⟩ := Great.foldl_set 0 A.toList 0 z
 unfold Instr.fill
 simp only [c, e1]
 rw [if_neg (by rw [g1]; simp; omega), f]
 obtain ⟨k1, k2⟩ := Great.foldl_set A.size B.toList 0 ((A.toList.zipIdx 0).foldl (fun cs (x : Value × Nat) => cs.setIfInBounds (0 + x.2) x.1) z)
 unfold Instr.fill
 congr 1
 refine Array.ext_getElem? fun k => ?_
 rw [k2 k, g1, g2 k]
 simp only [Array.length_toList, Array.getElem?_toList, Array.getElem?_append]
 by_cases hA : k < A.size
 ·rw [if_neg (by omega), if_pos (by omega), if_pos hA]; simp
 ·rw [if_neg hA]
  by_cases hB : k < A.size + B.size
  ·rw [if_pos (by omega)]; simp
  ·rw [if_neg (by omega), if_neg (by omega), Array.getElem?_eq_none (by omega), Array.getElem?_eq_none (by omega)]
end
end Go.Proofs.YtikmhlbpefednaaGreat
