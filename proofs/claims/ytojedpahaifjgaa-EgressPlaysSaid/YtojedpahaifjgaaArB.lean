/- Arrays of bytes as variables: made, read whole, written whole, handed back. No condition. -/
import Derived.Test.YtojedpahaifjgaaPre
import Derived.Test.YtojedpahaifjgaaGKi
import Derived.Deep.OwnRows
namespace Go.Proofs.Ytojedpahaifjgaa
open Go.RowKit
structure ArT (T : TypeId) (n : Nat) : Prop where
 hu : ∃ d, Try.prog.underlying T = some d ∧ (match d with | .struct _ | .array _ _ => true | _ => false) = true ∧ d.isRow = true
 hi : (Try.prog.info? T).map (·.size) = some n
 hz : ∀ w, (zeroValue T).run Try.prog w = .ok (.agg (ivA .u8 (zeros n))) w
def AvB (w : World) (g : Nat) (T : TypeId) (l : List Nat) : Prop := w.heap[g]? = some (.cells (ivA .u8 l) T (0, 0))
theorem AvB.bw {a b : World} {g : Nat} {T : TypeId} {l : List Nat} (h : AvB a g T l) (hb : BW a b) : AvB b g T l := hb.heap h
theorem AvB.new (w : World) (T : TypeId) (l : List Nat) : AvB (w.alloc (.cells (ivA .u8 l) T)) w.heap.size T l := heap_alloc_new w _
theorem AvB.lt {w : World} {g : Nat} {T : TypeId} {l : List Nat} (h : AvB w g T l) : g < w.heap.size := (Array.getElem?_eq_some_iff.1 h).1
theorem AvB.cell {w : World} {g : Nat} {T : TypeId} {l : List Nat} (h : AvB w g T l) (i : Nat) (hi : i < l.length) : w.cell? ⟨g, i, none⟩ = some (.int .u8 (l.getD i 0 : Nat)) := iv_cell h i hi
theorem AvB.frz {w : World} {g : Nat} {T : TypeId} {l : List Nat} (h : AvB w g T l) (i : Nat) : w.frozen? ⟨g, i, none⟩ = false := hp_frz h i
theorem AvB.set {w : World} {g : Nat} {T : TypeId} {l : List Nat} (h : AvB w g T l) (i x : Nat) : AvB (w.setCell ⟨g, i, none⟩ (.int .u8 (x : Nat))) g T (l.set i x) := iv_set h i x
theorem AvB.row {w : World} {g : Nat} {T : TypeId} {l : List Nat} (h : AvB w g T l) (k : List Nat) : AvB (w.setRow g (ivA .u8 k)) g T k := hp_row h _
theorem AvB.still {w w' : World} {g : Nat} {T : TypeId} {l : List Nat} (h : AvB w g T l) {S : List Nat} (hs : Still S w w') (hg : g ∉ S) : AvB w' g T l := hp_st hs h hg
theorem AvB.sb {w : World} {g : Nat} {T : TypeId} {l : List Nat} (h : AvB w g T l) (hb : ByL l) (n : Nat) (hn : l.length = n) (hm : n ≤ maxLen) : SB w (.slice (some ⟨g, 0, none⟩) n n) n l := by
 refine SB.mk' hn hb (Nat.le_refl _) hm h.lt fun j hj => ?_
 rw [Nat.zero_add]
 exact h.cell j (by omega)
section
variable {ops : Array Oper} {rest : List Oper} {o : Oper} {a : Act} {w : World} {Q : Exit → Act → World → Prop} {T : TypeId} {n : Nat}
theorem stR (hT : ArT T n) (hgd : o.guard = none) {x y : Operand} (ho : o.op = .store T x y) {g : Nat} (hx : a.eval x = .pointer (some ⟨g, 0, none⟩)) {l k : List Nat} (hy : a.eval y = .agg (ivA .u8 k)) (H : AvB w g T l) (hl : l.length = n) (hk : k.length = n)
  (h : wpList Try.prog ops Q rest (a.put o.dst undef) (w.setRow g (ivA .u8 k))) : wpList Try.prog ops Q (o :: rest) a w :=
 wpList_store_row hgd T x y ho g _ hx hy _ _ H (by rw [hT.hi, ivA_size, hk]) (by rw [ivA_size, ivA_size, hl, hk]) (ivA_one _ _) h
theorem stN (hT : ArT T n) (hgd : o.guard = none) {x y : Operand} (ho : o.op = .store T x y) {k : List Nat} (hx : a.eval x = .pointer (some ⟨w.heap.size, 0, none⟩)) (hy : a.eval y = .agg (ivA .u8 k)) (hk : k.length = n)
  (h : wpList Try.prog ops Q rest (a.put o.dst undef) (w.alloc (.cells (ivA .u8 k) T))) : wpList Try.prog ops Q (o :: rest) a (w.alloc (.cells (ivA .u8 (zeros n)) T)) :=
 wpList_store_new hgd T x y ho _ _ T hx hy (by rw [hT.hi, ivA_size, hk]) (by rw [ivA_size, ivA_size, zeros_len, hk]) (ivA_one _ _) h
end
theorem make_u8 (n : Nat) (hn : n ≤ 1000000000000) (w : World) : (Instr.makeSlice 34 (.int .i64 (n : Nat)) (.int .i64 (n : Nat))).run Try.prog w = .ok (.slice (some ⟨w.heap.size, 0, none⟩) n n) (w.alloc (.cells (ivA .u8 (zeros n)) 5)) := by
 have e : madeCells #[.int .u8 0] n = ivA .u8 (zeros n) := by
  refine Array.ext_getElem? fun j => ?_
  rcases Nat.lt_or_ge j n with h | h
  ·simp [madeCells, ivA, zeros, h, Nat.mod_one]
  ·simp [madeCells, ivA, zeros, Nat.not_lt.2 h]
 rw [← e]
 exact run_make_row' 34 5 (.int .u8 0) 1 Try.underlying34 (by kernel_rfl) rfl .i64 .i64 n (by omega) (by omega) w
end Go.Proofs.Ytojedpahaifjgaa
