/- Slices of numbers of any kind: read (NB), and of the call's own (NO); append onto them. No condition but the sizes'. -/
import Derived.Test.YtafhnlnhflehhaaDoorPre
import Derived.Test.YtafhnlnhflehhaaDoorBw
import Derived.Test.YtafhnlnhflehhaaDoorCut
namespace Go.Proofs.YtafhnlnhflehhaaDoor
open Go.RowKit
def nvs (k : IntKind) (l : List Int) : List Value := l.map fun n => Value.int k n
theorem nvs_get (k : IntKind) (l : List Int) (i : Nat) (h : i < l.length) : (nvs k l)[i]? = some (.int k (l.getD i 0)) := by simp [nvs, List.getElem?_eq_getElem h]
def NB (w : World) (k : IntKind) (v : Value) (n : Nat) (l : List Int) : Prop := l.length = n ∧ Sls w 1 v n (nvs k l)
def NO (w : World) (base : Nat) (E : TypeId) (k : IntKind) (v : Value) (n : Nat) (l : List Int) : Prop := l.length = n ∧ Ows w base E 1 v n (nvs k l)
theorem NO.nil (w : World) (base : Nat) (E : TypeId) (k : IntKind) : NO w base E k (.slice none 0 0) 0 [] := ⟨rfl, Ows.nil _ _ _ _⟩
theorem NO.bw {a b : World} {base : Nat} {E : TypeId} {k : IntKind} {v : Value} {n : Nat} {l : List Int} (h : NO a base E k v n l) (hb : BW a b) : NO b base E k v n l := ⟨h.1, h.2.bw hb⟩
theorem NB.bw {a b : World} {k : IntKind} {v : Value} {n : Nat} {l : List Int} (h : NB a k v n l) (hb : BW a b) : NB b k v n l := ⟨h.1, h.2.bw hb⟩
theorem NO.still {w w' : World} {base : Nat} {E : TypeId} {k : IntKind} {v : Value} {n : Nat} {l : List Int} {S : List Nat} (h : NO w base E k v n l) (hs : Still S w w') (hS : ∀ g, v.ownBlock = some g → g ∉ S) : NO w' base E k v n l := ⟨h.1, h.2.still hs hS⟩
theorem NB.still {w w' : World} {k : IntKind} {v : Value} {n : Nat} {l : List Int} {S : List Nat} (h : NB w k v n l) (hs : Still S w w') (hS : ∀ g, v.ownBlock = some g → g ∉ S) : NB w' k v n l := ⟨h.1, h.2.still hs hS⟩
theorem NO.up {w : World} {base base' : Nat} {E : TypeId} {k : IntKind} {v : Value} {n : Nat} {l : List Int} (h : NO w base E k v n l) (hb : base' ≤ base) : NO w base' E k v n l := ⟨h.1, h.2.up hb⟩
theorem NO.len {w : World} {base : Nat} {E : TypeId} {k : IntKind} {v : Value} {n : Nat} {l : List Int} (h : NO w base E k v n l) : ∃ sa cap, v = .slice sa n cap ∧ n ≤ cap ∧ cap ≤ maxLen := h.2.len
theorem NB.len {w : World} {k : IntKind} {v : Value} {n : Nat} {l : List Int} (h : NB w k v n l) : ∃ sa cap, v = .slice sa n cap ∧ n ≤ cap ∧ cap ≤ maxLen := h.2.len
theorem NO.ge' {w : World} {base : Nat} {E : TypeId} {k : IntKind} {v : Value} {n : Nat} {l : List Int} (h : NO w base E k v n l) : ∀ j, v.ownBlock = some j → base ≤ j := fun j hj => (h.2.lt j hj).1
theorem NO.lt' {w : World} {base : Nat} {E : TypeId} {k : IntKind} {v : Value} {n : Nat} {l : List Int} (h : NO w base E k v n l) : ∀ j, v.ownBlock = some j → j < w.heap.size := fun j hj => (h.2.lt j hj).2
theorem NB.form {w : World} {k : IntKind} {v : Value} {n : Nat} {l : List Int} (h : NB w k v n l) (h0 : 0 < n) :
  ∃ b o cap, v = .slice (some ⟨b, o, none⟩) n cap ∧ n ≤ cap ∧ cap ≤ maxLen ∧ b < w.heap.size ∧ ∀ j, j < n → w.cell? ⟨b, o + j, none⟩ = some (.int k (l.getD j 0)) := by
 obtain ⟨b, o, cap, hv, h1, h2, h3, h4⟩ := h.2.form h0
 refine ⟨b, o, cap, hv, h1, h2, h3, fun j hj => ?_⟩
 rw [h4 j (by omega), nvs_get _ _ _ (by rw [h.1]; exact hj)]
theorem NO.form {w : World} {base : Nat} {E : TypeId} {k : IntKind} {v : Value} {n : Nat} {l : List Int} (h : NO w base E k v n l) (h0 : 0 < n) :
  ∃ g o cap, v = .slice (some ⟨g, o, none⟩) n cap ∧ base ≤ g ∧ g < w.heap.size ∧ n ≤ cap ∧ cap ≤ maxLen ∧ (∀ j, j < n → w.cell? ⟨g, o + j, none⟩ = some (.int k (l.getD j 0))) ∧ ∀ j, w.frozen? ⟨g, j, none⟩ = false := by
 obtain ⟨g, o, cap, hv, h1, h2, h3, h4, h5, h6⟩ := h.2.form h0
 refine ⟨g, o, cap, hv, h1, h2, h3, h4, fun j hj => ?_, h6⟩
 rw [h5 j (by omega), nvs_get _ _ _ (by rw [h.1]; exact hj)]
theorem NB.new1 (w : World) (E : TypeId) (k : IntKind) (x : Int) : NB (w.alloc (.cells #[.int k x] E)) k (.slice (some ⟨w.heap.size, 0, none⟩) 1 1) 1 [x] :=
 ⟨rfl, rfl, by decide, .inr ⟨w.heap.size, 0, 1, rfl, Nat.le_refl _, by decide, by simp, fun j hj => by
  obtain rfl : j = 0 := by omega
  simp [go_sem, nvs]⟩⟩
section
variable {T E : TypeId} {bytes : Nat}
end
end Go.Proofs.YtafhnlnhflehhaaDoor
