/- Maps that a call has made: what a block's entries are, as a list of keys and values; a new key is put behind the list; what is looked up is in the list, or nothing. -/
import Derived.Maps.Keyed
import Derived.DeepKeys4
import Derived.Test.YtafhnlnhflehhaaGreatDoorRg
namespace Go.Proofs.YtafhnlnhflehhaaGreatDoor
open Go.ChangeMaps (setBlock heap_setBlock_same heap_setBlock_other)
def MapIn (w : World) (g : Nat) (s : List (Value × Value)) : Prop := ∃ es clock, w.heap[g]? = some (.map es clock) ∧ es.toList.map (fun e => (e.key, e.val)) = s
theorem MapIn.made (w : World) : MapIn (w.alloc (.map #[] 0)) w.heap.size [] := ⟨#[], 0, (MapKept.heap_alloc w _).1, rfl⟩
theorem MapIn.lt {w : World} {g : Nat} {s : List (Value × Value)} (h : MapIn w g s) : g < w.heap.size := by
 obtain ⟨es, clock, hb, _⟩ := h
 exact (Array.getElem?_eq_some_iff.1 hb).1
theorem MapIn.still {w w' : World} {g : Nat} {s : List (Value × Value)} {S : List Nat} (h : MapIn w g s) (hs : Still S w w') (hg : g ∉ S) : MapIn w' g s := by
 have hlt := h.lt
 obtain ⟨es, clock, hb, he⟩ := h
 exact ⟨es, clock, (hs.block g hlt hg).trans hb, he⟩
section
variable {P : Program} {k t e : TypeId} {w : World} {g : Nat} {s : List (Value × Value)}
theorem MapIn.keys {es : Array MapEntry} (he : es.toList.map (fun e => (e.key, e.val)) = s) (hs : ∀ p ∈ s, ∃ l, keyOf P k p.1 = some l) : ∀ e ∈ es.toList, ∃ l, keyOf P k e.key = some l := fun e hm =>
 hs (e.key, e.val) (by rw [← he]; exact List.mem_map.2 ⟨e, hm, rfl⟩)
theorem MapIn.insert (h : MapIn w g s) (K : Maps.Keyed P k) (ht : P.underlying t = some (.map k e)) (hs : ∀ p ∈ s, ∃ l, keyOf P k p.1 = some l) {key val : Value} {kl : Lit} (hkey : keyOf P k key = some kl)
  (hnew : ∀ p ∈ s, p.1 ≠ key) : ∃ w', (Instr.mapUpdate t (.map (some g)) key val).run P w = .ok () w' ∧ MapIn w' g (s ++ [(key, val)]) ∧ Still [g] w w' := by
 obtain ⟨es, clock, hb, he⟩ := h
 rcases K.find w hkey es.toList (MapIn.keys he hs) with ⟨h1, _⟩ | ⟨j, e0, _, h2, h3⟩
 ·refine ⟨setBlock w g (.map (es.push ⟨key, val, clock⟩) (clock + 1)), ?_, ⟨_, _, heap_setBlock_same hb _, by simp [he]⟩,
   ⟨rfl, rfl, rfl, by simp [setBlock], fun i _ hi => heap_setBlock_other hb _ (fun e => hi (by simp [e]))⟩⟩
  simp [Instr.mapUpdate, run_underlying ht, MapKept.run_getObj_map hb, K.check w false hkey, h1, MapKept.run_setObj_map _ hb, Result.andThen, setBlock]
 ·have hm : e0 ∈ es.toList := List.mem_of_getElem? h2
  exact ((hnew (e0.key, e0.val) (by rw [← he]; exact List.mem_map.2 ⟨e0, hm, rfl⟩)) h3).elim
theorem MapIn.look (h : MapIn w g s) (K : Maps.Keyed P k) (ht : P.underlying t = some (.map k e)) (hs : ∀ p ∈ s, ∃ l, keyOf P k p.1 = some l) {z : Value} (hz : (zeroValue e).run P w = .ok z w)
  {key : Value} {kl : Lit} (hkey : keyOf P k key = some kl) :
  (∃ v, (key, v) ∈ s ∧ ∀ c, (Instr.lookup t (.map (some g)) key c).run P w = .ok (if c then .tuple #[v, .bool true] else v) w) ∨
  (∀ p ∈ s, p.1 ≠ key) ∧ ∀ c, (Instr.lookup t (.map (some g)) key c).run P w = .ok (if c then .tuple #[z, .bool false] else z) w := by
 obtain ⟨es, clock, hb, he⟩ := h
 rcases K.find w hkey es.toList (MapIn.keys he hs) with ⟨h1, h2⟩ | ⟨j, e0, h1, h2, h3⟩
 ·refine .inr ⟨fun p hp => ?_, fun c => ?_⟩
  ·rw [← he] at hp
   obtain ⟨x, hx, rfl⟩ := List.mem_map.1 hp
   exact h2 x hx
  ·simp [Instr.lookup, run_underlying ht, MapKept.run_getObj_map hb, K.check w _ hkey, h1, hz, Result.andThen]
 ·have hm : e0 ∈ es.toList := List.mem_of_getElem? h2
  refine .inl ⟨e0.val, ?_, fun c => ?_⟩
  ·rw [← he, ← h3]
   exact List.mem_map.2 ⟨e0, hm, rfl⟩
  ·simp [Instr.lookup, run_underlying ht, MapKept.run_getObj_map hb, K.check w _ hkey, h1, Result.andThen]
end
end Go.Proofs.YtafhnlnhflehhaaGreatDoor
