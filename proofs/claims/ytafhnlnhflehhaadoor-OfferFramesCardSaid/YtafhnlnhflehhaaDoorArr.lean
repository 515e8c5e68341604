/- Arrays of numbers, by value and in memory: 'ivA k l' is the cells of an array of kind k that holds l. No condition. -/
import Derived.Test.YtafhnlnhflehhaaDoorBs
import Derived.Laws.Rows
import Derived.Laws.Tables
import Derived.Laws.NewBlocks
import Derived.Deep.Draws
namespace Go.Proofs.YtafhnlnhflehhaaDoor
open Go.RowKit
def ivA (k : IntKind) (l : List Nat) : Array Value := (l.map fun n => Value.int k (n : Nat)).toArray
section
variable {P : Program}
end
theorem Below.setRow {B : Nat} {a w : World} (h : Below B a w) {g : Nat} (hg : B ≤ g) (cs : Array Value) : Below B a (w.setRow g cs) := by
 refine h.trans ⟨rfl, rfl, rfl, by simp [World.setRow], fun k hk => ?_⟩
 simp only [World.setRow, Array.getElem?_modify]
 rw [if_neg (by omega)]
theorem setRow_get (w : World) (g : Nat) (cs old : Array Value) (t : TypeId) (f : Nat × Nat) (h : w.heap[g]? = some (.cells old t f)) : (w.setRow g cs).heap[g]? = some (.cells cs t f) := by
 simp [World.setRow, Array.getElem?_modify, h]
@[go_sem] theorem drewN_setCell (w : World) (k : Nat) (a : Addr) (v : Value) : (w.drewN k).setCell a v = (w.setCell a v).drewN k := rfl
@[go_sem] theorem drewN_alloc (w : World) (k : Nat) (o : Obj) : (w.drewN k).alloc o = (w.alloc o).drewN k := rfl
@[go_sem] theorem drewN_drew (w : World) (k : Nat) : (w.drewN k).drew = w.drewN (k + 1) := rfl
def Byt (l : List Nat) : Prop := ∀ i, l.getD i 0 < 256
theorem Byt.set {l : List Nat} (h : Byt l) (i x : Nat) (hx : x < 256) : Byt (l.set i x) := by
 intro j
 rw [List.getD_eq_getElem?_getD, List.getElem?_set]
 have := h j
 rw [List.getD_eq_getElem?_getD] at this
 split
 ·split
  ·exact hx
  ·simp
 ·exact this
end Go.Proofs.YtafhnlnhflehhaaDoor
