/- A region that draws its order, whose operations read and whose calls hand back values that hang on nothing new (they may make memory): one walk, in the order of the text, over 'Later w': any world in which nothing that was there in w has turned. -/
import Derived.Test.YtjjemkfkpnemoaaBs
import Derived.Deep.QuietTactic
import Derived.BigQuiet
namespace Go.Proofs.Ytjjemkfkpnemoaa
open Go.RowKit

/-- A world in which all that was there in w is as it was. -/
structure Later (w : World) where
  now : World
  ok : Below w.heap.size w now

theorem Later.cell {w : World} (x : Later w) {a : Addr} {v : Value} (h : w.cell? a = some v) : x.now.cell? a = some v := by
  rw [x.ok.cell (World.block_lt_of_cell? _ _ h)]; exact h
theorem Later.heap {w : World} (x : Later w) {b : Nat} {o : Obj} (h : w.heap[b]? = some o) : x.now.heap[b]? = some o := by
  rw [x.ok.block b (Array.getElem?_eq_some_iff.1 h).1]; exact h
def Later.first (w : World) : Later w := ⟨w, Below.refl _ _⟩
instance (w : World) : Nonempty (Later w) := ⟨Later.first w⟩
def Later.draw {w : World} (x : Later w) : Later w := ⟨x.now.drew, x.ok.drew⟩
theorem Later.next {w : World} (x : Later w) {w' : World} (h : Below x.now.heap.size x.now w') : ∃ y : Later w, w' = y.now :=
  ⟨⟨w', x.ok.trans (h.mono x.ok.size)⟩, rfl⟩

theorem wp_region_later {P : Program} {id : Nat} {Q : Exit → Act → World → Prop} {a : Act} {w : World} {l : List Oper} (hm : P.follows .mixedOrders = true) (hB : Region.lexB .any l.toArray = true)
    (h : wpQuiet P l.toArray (fun w' => ∃ x : Later w, w' = x.now) (fun a' => ∀ w', (∃ x : Later w, w' = x.now) → Q .normal a' w') l a) : (Code.region id l.toArray true).wp P Q a w :=
  wp_region_quiet (C := fun w' => ∃ x : Later w, w' = x.now) hm hB ⟨(Later.first w).draw, rfl⟩ (by simpa using h)

theorem Calls.later_of {P : Program} {f : FuncId} {args : Array Value} {w : World} {x : Later w} {v : Value}
    (h : Calls P f args x.now fun e w' => e = .returned v ∧ Below x.now.heap.size x.now w') : Calls P f args x.now fun e w'' => e = .returned v ∧ ∃ y : Later w, w'' = y.now :=
  h.mono fun _ _ ⟨he, hb⟩ => ⟨he, x.next hb⟩
theorem Calls.later_same {P : Program} {f : FuncId} {args : Array Value} {w : World} {x : Later w} {v : Value}
    (h : Calls P f args x.now fun e w' => e = .returned v ∧ w' = x.now) : Calls P f args x.now fun e w'' => e = .returned v ∧ ∃ y : Later w, w'' = y.now :=
  h.mono fun _ _ ⟨he, hb⟩ => ⟨he, ⟨x, hb⟩⟩
end Go.Proofs.Ytjjemkfkpnemoaa
