/- What every walk wants: the kit's modules, and small laws on blocks of memory. Slices of numbers of any kind: read (NB), and of the call's own (NO); append onto them. No condition but the sizes'. Bytes as a string: string(b). No condition. -/
import Derived.Test.YtafhnlnhflehhaaGreatDoorRows
import Derived.Test.YtafhnlnhflehhaaGreatDoorGBa
import Derived.Test.YtafhnlnhflehhaaGreatDoorGKi
import Derived.WalkKit
import Derived.WalkSpells
import Derived.WalkLawsBesides
import Derived.Deep.LoopGhost
import Derived.Deep.DeepCutAuto
import Derived.Deep.MidRow
import Derived.Laws.BitsAllLaws
import Derived.Laws.Rows
import Derived.Laws.ResultCell
import Derived.Deep.WholeRow
import Derived.OwnWalk
import Derived.IntWalk
import Derived.Laws.BytesArg
namespace Go.Proofs.YtafhnlnhflehhaaGreatDoor
open Go.RowKit
theorem hp_new (w : World) (o : Obj) (n : Nat) (h : n = w.heap.size) : (w.alloc o).heap[n]? = some o := by subst h; exact heap_alloc_new w o
theorem hp_cell {w : World} {b : Nat} {c : Array Value} {t : TypeId} {f : Nat × Nat} (h : w.heap[b]? = some (.cells c t f)) (i : Nat) : w.cell? ⟨b, i, none⟩ = c[i]? := by simp [World.cell?, h]
theorem hp_frz {w : World} {b : Nat} {c : Array Value} {t : TypeId} (h : w.heap[b]? = some (.cells c t (0, 0))) (i : Nat) : w.frozen? ⟨b, i, none⟩ = false := by simp [World.frozen?, h]
theorem hp_set {w : World} {b : Nat} {c : Array Value} {t : TypeId} {f : Nat × Nat} (h : w.heap[b]? = some (.cells c t f)) (i : Nat) (u : Value) : (w.setCell ⟨b, i, none⟩ u).heap[b]? = some (.cells (c.setIfInBounds i u) t f) := by
 simp [World.setCell, Array.getElem?_modify, h]
theorem hp_oth {w : World} {b k i : Nat} {v : Value} (h : k ≠ b) : (w.setCell ⟨b, i, none⟩ v).heap[k]? = w.heap[k]? := Below.heap_setCell _ _ _ _ h
theorem hp_row {w : World} {g : Nat} {old : Array Value} {t : TypeId} {f : Nat × Nat} (h : w.heap[g]? = some (.cells old t f)) (cs : Array Value) : (w.setRow g cs).heap[g]? = some (.cells cs t f) := setRow_get w g cs old t f h
theorem wpList_store_new {P : Program} {ops : Array Oper} {rest : List Oper} {o : Oper} {a : Act} {w : World} {Q : Exit → Act → World → Prop} (hgd : o.guard = none) (T : TypeId) (x y : Operand) (ho : o.op = .store T x y) (Z c : Array Value) (t : TypeId)
  (hx : a.eval x = .pointer (some ⟨w.heap.size, 0, none⟩)) (hy : a.eval y = .agg c) (hi : (P.info? T).map (·.size) = some c.size) (hZ : Z.size = c.size) (h1 : c.all (·.oneCell') = true)
  (h : wpList P ops Q rest (a.put o.dst undef) (w.alloc (.cells c t))) : wpList P ops Q (o :: rest) a (w.alloc (.cells Z t)) := by
 refine wpList_store_row hgd T x y ho w.heap.size c hx hy t Z (hp_new w _ _ rfl) hi hZ h1 ?_
 rw [World.setRow_alloc_new]; exact h
end Go.Proofs.YtafhnlnhflehhaaGreatDoor

namespace Go.Proofs.YtafhnlnhflehhaaGreatDoor
open Go.RowKit
def nvs (k : IntKind) (l : List Int) : List Value := l.map fun n => Value.int k n
theorem nvs_get (k : IntKind) (l : List Int) (i : Nat) (h : i < l.length) : (nvs k l)[i]? = some (.int k (l.getD i 0)) := by simp [nvs, List.getElem?_eq_getElem h]
def NB (w : World) (k : IntKind) (v : Value) (n : Nat) (l : List Int) : Prop := l.length = n ∧ Sls w 1 v n (nvs k l)
def NO (w : World) (base : Nat) (E : TypeId) (k : IntKind) (v : Value) (n : Nat) (l : List Int) : Prop := l.length = n ∧ Ows w base E 1 v n (nvs k l)
theorem NO.nil (w : World) (base : Nat) (E : TypeId) (k : IntKind) : NO w base E k (.slice none 0 0) 0 [] := ⟨rfl, Ows.nil _ _ _ _⟩
theorem NO.bw {a b : World} {base : Nat} {E : TypeId} {k : IntKind} {v : Value} {n : Nat} {l : List Int} (h : NO a base E k v n l) (hb : BW a b) : NO b base E k v n l := ⟨h.1, h.2.bw hb⟩
theorem NB.bw {a b : World} {k : IntKind} {v : Value} {n : Nat} {l : List Int} (h : NB a k v n l) (hb : BW a b) : NB b k v n l := ⟨h.1, h.2.bw hb⟩
theorem NO.still {w w' : World} {base : Nat} {E : TypeId} {k : IntKind} {v : Value} {n : Nat} {l : List Int} {S : List Nat} (h : NO w base E k v n l) (hs : Still S w w') (hS : ∀ g, v.ownBlock = some g → g ∉ S) : NO w' base E k v n l := ⟨h.1, h.2.still hs hS⟩
theorem NB.still {w w' : World} {k : IntKind} {v : Value} {n : Nat} {l : List Int} {S : List Nat} (h : NB w k v n l) (hs : Still S w w') (hS : ∀ g, v.ownBlock = some g → g ∉ S) : NB w' k v n l := ⟨h.1, h.2.still hs hS⟩
theorem NO.up {w : World} {base base' : Nat} {E : TypeId} {k : IntKind} {v : Value} {n : Nat} {l : List Int} (h : NO w base E k v n l) (hb : base' ≤ base) : NO w base' E k v n l := ⟨h.1, h.2.up hb⟩
theorem NO.len {w : World} {base : Nat} {E : TypeId} {k : IntKind} {v : Value} {n : Nat} {l : List Int} (h : NO w base E k v n l) : ∃ sa cap, v = .slice sa n cap ∧ n ≤ cap ∧ cap ≤ maxLen := h.2.len
theorem NB.len {w : World} {k : IntKind} {v : Value} {n : Nat} {l : List Int} (h : NB w k v n l) : ∃ sa cap, v = .slice sa n cap ∧ n ≤ cap ∧ cap ≤ maxLen := h.2.len
theorem NO.ge' {w : World} {base : Nat} {E : TypeId} {k : IntKind} {v : Value} {n : Nat} {l : List Int} (h : NO w base E k v n l) : ∀ j, v.ownBlock = some j → base ≤ j := fun j hj => (h.2.lt j hj).1
theorem NO.lt' {w : World} {base : Nat} {E : TypeId} {k : IntKind} {v : Value} {n : Nat} {l : List Int} (h : NO w base E k v n l) : ∀ j, v.ownBlock = some j → j < w.heap.size := fun j hj => (h.2.lt j hj).2
theorem NB.form {w : World} {k : IntKind} {v : Value} {n : Nat} {l : List Int} (h : NB w k v n l) (h0 : 0 < n) :
  ∃ b o cap, v = .slice (some ⟨b, o, none⟩) n cap ∧ n ≤ cap ∧ cap ≤ maxLen ∧ b < w.heap.size ∧ ∀ j, j < n → w.cell? ⟨b, o + j, none⟩ = some (.int k (l.getD j 0)) := by
 obtain ⟨b, o, cap, hv, h1, h2, h3, h4⟩ := h.2.form h0
 refine ⟨b, o, cap, hv, h1, h2, h3, fun j hj => ?_⟩
 rw [h4 j (by omega), nvs_get _ _ _ (by rw [h.1]; exact hj)]
theorem NO.form {w : World} {base : Nat} {E : TypeId} {k : IntKind} {v : Value} {n : Nat} {l : List Int} (h : NO w base E k v n l) (h0 : 0 < n) :
  ∃ g o cap, v = .slice (some ⟨g, o, none⟩) n cap ∧ base ≤ g ∧ g < w.heap.size ∧ n ≤ cap ∧ cap ≤ maxLen ∧ (∀ j, j < n → w.cell? ⟨g, o + j, none⟩ = some (.int k (l.getD j 0))) ∧ ∀ j, w.frozen? ⟨g, j, none⟩ = false := by
 obtain ⟨g, o, cap, hv, h1, h2, h3, h4, h5, h6⟩ := h.2.form h0
 refine ⟨g, o, cap, hv, h1, h2, h3, h4, fun j hj => ?_, h6⟩
 rw [h5 j (by omega), nvs_get _ _ _ (by rw [h.1]; exact hj)]
theorem NB.new1 (w : World) (E : TypeId) (k : IntKind) (x : Int) : NB (w.alloc (.cells #[.int k x] E)) k (.slice (some ⟨w.heap.size, 0, none⟩) 1 1) 1 [x] :=
 ⟨rfl, rfl, by decide, .inr ⟨w.heap.size, 0, 1, rfl, Nat.le_refl _, by decide, by simp, fun j hj => by
  obtain rfl : j = 0 := by omega
  simp [go_sem, nvs]⟩⟩
section
variable {T E : TypeId} {bytes : Nat}
end
end Go.Proofs.YtafhnlnhflehhaaGreatDoor

namespace Go.Proofs.YtafhnlnhflehhaaGreatDoor
open Go.RowKit
def bstr (l : List Nat) : ByteArray := strOfNums (l.map fun (n : Nat) => (n : Int))
theorem conv_sb {w : World} {v : Value} {n : Nat} {l : List Nat} (h : SB w v n l) : (convert 73 9 v).run Tryz.prog w = .ok (.string (bstr l)) w := by
 obtain ⟨h1, h2, h3, h4, ⟨h5, sa, cp, rfl, h6, h7⟩ | ⟨b, o, cap, rfl, hn, hc, hlt, hcell⟩⟩ := h
 ·subst h5
  have : l = [] := List.eq_nil_of_length_eq_zero h1
  subst this
  rw [run_convert_bytes_string w 73 9 5 sa 0 cp Tryz.underlying73 Tryz.underlying5 Tryz.underlying9]
  cases sa with
  | none => simp [Conv.bytesToString, bstr, strOfNums]; rfl
  | some a => simp [Conv.bytesToString, bstr, strOfNums, loadCells, loadCellsFrom]; rfl
 ·refine run_convert_bytes_arg w 73 5 Tryz.underlying73 Tryz.underlying5 b o n cap (l.map fun (n : Nat) => (n : Int)) (by simpa using h1) (fun i hi => ?_) 9 Tryz.underlying9
  rw [hcell i (by omega), bvs_get _ _ (by omega)]
  simp [List.getD_eq_getElem?_getD, List.getElem?_eq_getElem (show i < l.length by omega)]
end Go.Proofs.YtafhnlnhflehhaaGreatDoor
