/- What every walk wants: the kit's modules, and small laws on blocks of memory. -/
import Derived.Test.YtafhnlnhflehhaaDoorRows
import Derived.Test.YtafhnlnhflehhaaDoorBs
import Derived.Test.YtafhnlnhflehhaaDoorArr
import Derived.Test.YtafhnlnhflehhaaDoorEqA
import Derived.Test.YtafhnlnhflehhaaDoorByt
import Derived.Test.YtafhnlnhflehhaaDoorQa
import Derived.WalkKit
import Derived.WalkSpells
import Derived.WalkLawsBesides
import Derived.Deep.LoopGhost
import Derived.Deep.DeepCutAuto
import Derived.Deep.MidRow
import Derived.Laws.BitsAllLaws
import Derived.Laws.Rows
import Derived.Laws.ResultCell
import Derived.Deep.WholeRow
import Derived.OwnWalk
import Derived.IntWalk
namespace Go.Proofs.YtafhnlnhflehhaaDoor
open Go.RowKit
theorem hp_new (w : World) (o : Obj) (n : Nat) (h : n = w.heap.size) : (w.alloc o).heap[n]? = some o := by subst h; exact heap_alloc_new w o
theorem hp_cell {w : World} {b : Nat} {c : Array Value} {t : TypeId} {f : Nat × Nat} (h : w.heap[b]? = some (.cells c t f)) (i : Nat) : w.cell? ⟨b, i, none⟩ = c[i]? := by simp [World.cell?, h]
theorem hp_frz {w : World} {b : Nat} {c : Array Value} {t : TypeId} (h : w.heap[b]? = some (.cells c t (0, 0))) (i : Nat) : w.frozen? ⟨b, i, none⟩ = false := by simp [World.frozen?, h]
theorem hp_set {w : World} {b : Nat} {c : Array Value} {t : TypeId} {f : Nat × Nat} (h : w.heap[b]? = some (.cells c t f)) (i : Nat) (u : Value) : (w.setCell ⟨b, i, none⟩ u).heap[b]? = some (.cells (c.setIfInBounds i u) t f) := by
 simp [World.setCell, Array.getElem?_modify, h]
theorem hp_oth {w : World} {b k i : Nat} {v : Value} (h : k ≠ b) : (w.setCell ⟨b, i, none⟩ v).heap[k]? = w.heap[k]? := Below.heap_setCell _ _ _ _ h
theorem wpList_store_new {P : Program} {ops : Array Oper} {rest : List Oper} {o : Oper} {a : Act} {w : World} {Q : Exit → Act → World → Prop} (hgd : o.guard = none) (T : TypeId) (x y : Operand) (ho : o.op = .store T x y) (Z c : Array Value) (t : TypeId)
  (hx : a.eval x = .pointer (some ⟨w.heap.size, 0, none⟩)) (hy : a.eval y = .agg c) (hi : (P.info? T).map (·.size) = some c.size) (hZ : Z.size = c.size) (h1 : c.all (·.oneCell') = true)
  (h : wpList P ops Q rest (a.put o.dst undef) (w.alloc (.cells c t))) : wpList P ops Q (o :: rest) a (w.alloc (.cells Z t)) := by
 refine wpList_store_row hgd T x y ho w.heap.size c hx hy t Z (hp_new w _ _ rfl) hi hZ h1 ?_
 rw [World.setRow_alloc_new]; exact h
end Go.Proofs.YtafhnlnhflehhaaDoor
