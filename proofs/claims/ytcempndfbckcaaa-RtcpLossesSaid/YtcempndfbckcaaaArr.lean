/- Arrays of numbers, by value and in memory: 'ivA k l' is the cells of an array of kind k that holds l. No condition. -/
import Derived.Test.YtcempndfbckcaaaBs
import Derived.Laws.Rows
import Derived.Laws.Tables
import Derived.Laws.NewBlocks
import Derived.Deep.Draws
namespace Go.Proofs.Ytcempndfbckcaaa
open Go.RowKit

def zeros (n : Nat) : List Nat := List.replicate n 0
theorem zeros_len (n : Nat) : (zeros n).length = n := by simp [zeros]
theorem zeros_get (n i : Nat) : (zeros n).getD i 0 = 0 := by
  simp [zeros, List.getD_eq_getElem?_getD, List.getElem?_replicate]
  split <;> rfl
def ivA (k : IntKind) (l : List Nat) : Array Value := (l.map fun n => Value.int k (n : Nat)).toArray
theorem ivA_size (k : IntKind) (l : List Nat) : (ivA k l).size = l.length := by simp [ivA]
theorem ivA_get (k : IntKind) (l : List Nat) (i : Nat) (h : i < l.length) : (ivA k l)[i]? = some (.int k (l.getD i 0 : Nat)) := by
  simp [ivA, List.getElem?_eq_getElem h, List.getD_eq_getElem?_getD]
theorem ivA_set (k : IntKind) (l : List Nat) (i x : Nat) : (ivA k l).setIfInBounds i (.int k (x : Nat)) = ivA k (l.set i x) := by
  simp [ivA, List.map_set]
theorem ivA_one (k : IntKind) (l : List Nat) : (ivA k l).all (·.oneCell') = true := by
  simp [ivA, Value.oneCell']

section
variable {P : Program}
theorem run_alloc_of (t : TypeId) (cs : Array Value) (hz : ∀ w, (zeroValue t).run P w = .ok (.agg cs) w) (b : Bool) (v : Value) (hv : v = .tuple #[]) (w : World) :
    (Instr.alloc t b v).run P w = .ok (.pointer (some ⟨w.heap.size, 0, none⟩)) (w.alloc (.cells cs t)) := by
  subst hv
  simp only [Instr.alloc, Sem.run_bind, hz, Result.andThen_ok]
  cases b <;> simp [newVar, newRow, Value.cells, go_sem]

theorem wpList_alloc_of {ops : Array Oper} {rest : List Oper} {o : Oper} {a : Act} {w : World} {Q : Exit → Act → World → Prop} (hgd : o.guard = none) (t : TypeId) (ho : o.op = .alloc t)
    (cs : Array Value) (hz : ∀ w, (zeroValue t).run P w = .ok (.agg cs) w)
    (h : wpList P ops Q rest (a.put o.dst (.pointer (some ⟨w.heap.size, 0, none⟩))) (w.alloc (.cells cs t))) : wpList P ops Q (o :: rest) a w := by
  refine wpList_plain hgd fun K hK => ?_
  unfold Oper.wp execOp
  simp only [ho, Sem.run_bind, run_alloc_of t cs hz true _ rfl, Result.andThen_ok, Sem.run_pure]
  exact hK _ _ h
/-- The same, for a block whose time is left open. -/
theorem run_flo_alloc (t : TypeId) (cs : Array Value) (hz : ∀ w, (zeroValue t).run P w = .ok (.agg cs) w) {oi : Oper} (ho : oi.op = .alloc t) (ev : Operand → Value) (x : World) :
    (execOp ev oi).run P x = .ok (.value (.pointer (some ⟨x.heap.size, 0, none⟩))) (x.alloc (.cells cs t)) := by
  unfold execOp
  simp only [ho, Sem.run_bind, run_alloc_of t cs hz true _ rfl, Result.andThen_ok, Sem.run_pure]
end

theorem ivA_val (k : IntKind) (l : List Nat) (i x : Nat) (v : Int) (h : v = (x : Nat)) : (ivA k l).setIfInBounds i (.int k v) = ivA k (l.set i x) := by rw [h]; exact ivA_set k l i x
theorem Below.setRow {B : Nat} {a w : World} (h : Below B a w) {g : Nat} (hg : B ≤ g) (cs : Array Value) : Below B a (w.setRow g cs) := by
  refine h.trans ⟨rfl, rfl, rfl, by simp [World.setRow], fun k hk => ?_⟩
  simp only [World.setRow, Array.getElem?_modify]
  rw [if_neg (by omega)]
theorem setRow_get (w : World) (g : Nat) (cs old : Array Value) (t : TypeId) (f : Nat × Nat) (h : w.heap[g]? = some (.cells old t f)) : (w.setRow g cs).heap[g]? = some (.cells cs t f) := by
  simp [World.setRow, Array.getElem?_modify, h]

@[go_sem] theorem drewN_setCell (w : World) (k : Nat) (a : Addr) (v : Value) : (w.drewN k).setCell a v = (w.setCell a v).drewN k := rfl
@[go_sem] theorem drewN_alloc (w : World) (k : Nat) (o : Obj) : (w.drewN k).alloc o = (w.alloc o).drewN k := rfl
@[go_sem] theorem drewN_drew (w : World) (k : Nat) : (w.drewN k).drew = w.drewN (k + 1) := rfl

/-- The list of f's values at 0, 1, .. below n. -/
def tab (n : Nat) (f : Nat → Nat) : List Nat := (List.range n).map f
theorem tab_len (n : Nat) (f : Nat → Nat) : (tab n f).length = n := by simp [tab]
theorem tab_get (n : Nat) (f : Nat → Nat) (i : Nat) (h : i < n) : (tab n f).getD i 0 = f i := by
  simp [tab, List.getD_eq_getElem?_getD, List.getElem?_range h]
theorem tab_set (n : Nat) (f g : Nat → Nat) (i x : Nat) (hi : i < n) (hx : x = g i) (h : ∀ j, j < n → j ≠ i → f j = g j) : (tab n f).set i x = tab n g := by
  subst hx
  refine List.ext_getElem? fun j => ?_
  by_cases hj : j = i
  · subst hj; rw [List.getElem?_set_self (by rw [tab_len]; exact hi)]; simp [tab, List.getElem?_range hi]
  · rw [List.getElem?_set_ne (by omega)]
    rcases Nat.lt_or_ge j n with hjn | hjn
    · simp [tab, List.getElem?_range hjn, h j hjn hj]
    · rw [List.getElem?_eq_none (by rw [tab_len]; exact hjn), List.getElem?_eq_none (by rw [tab_len]; exact hjn)]
theorem tab_of (n : Nat) (l : List Nat) (h : l.length = n) : tab n (fun i => l.getD i 0) = l := by
  refine List.ext_getElem? fun j => ?_
  rcases Nat.lt_or_ge j n with hjn | hjn
  · simp [tab, List.getElem?_range hjn, List.getD_eq_getElem?_getD, List.getElem?_eq_getElem (show j < l.length by omega)]
  · rw [List.getElem?_eq_none (by rw [tab_len]; exact hjn), List.getElem?_eq_none (by omega)]
theorem tab_congr (n : Nat) (f g : Nat → Nat) (h : ∀ j, j < n → f j = g j) : tab n f = tab n g :=
  List.map_congr_left fun j hj => h j (List.mem_range.1 hj)
/-- All elements are bytes. -/
def Byt (l : List Nat) : Prop := ∀ i, l.getD i 0 < 256
theorem Byt.set {l : List Nat} (h : Byt l) (i x : Nat) (hx : x < 256) : Byt (l.set i x) := by
  intro j
  rw [List.getD_eq_getElem?_getD, List.getElem?_set]
  have := h j
  rw [List.getD_eq_getElem?_getD] at this
  split
  · split
    · exact hx
    · simp
  · exact this
theorem Byt.tab (n : Nat) (f : Nat → Nat) (h : ∀ j, j < n → f j < 256) : Byt (tab n f) := by
  intro j
  rcases Nat.lt_or_ge j n with hj | hj
  · rw [tab_get n f j hj]; exact h j hj
  · rw [List.getD_eq_getElem?_getD, List.getElem?_eq_none (by rw [tab_len]; exact hj)]; simp
end Go.Proofs.Ytcempndfbckcaaa
