/- Worlds that only grew: 'BW a b': all that was there in a stands in b. How readings go along. Nothing of the program; no condition. -/
import Derived.Test.YtafhnlnhflehhaaDoorByt
namespace Go.Proofs.YtafhnlnhflehhaaDoor
open Go.RowKit
def BW (a b : World) : Prop := Below a.heap.size a b
theorem BW.refl (a : World) : BW a a := Below.refl _ _
theorem BW.of {a b : World} (h : Below a.heap.size a b) : BW a b := h
theorem BW.bel {a b : World} (h : BW a b) : Below a.heap.size a b := h
theorem BW.size {a b : World} (h : BW a b) : a.heap.size ≤ b.heap.size := Below.size h
theorem BW.trans {a b c : World} (h : BW a b) (k : BW b c) : BW a c := Below.trans h (Below.mono k h.size)
theorem BW.trans' {a b c : World} (h : BW a b) {B : Nat} (k : Below B b c) (hB : a.heap.size ≤ B) : BW a c := Below.trans h (Below.mono k hB)
theorem BW.call {a b c : World} (h : BW a b) (k : Below b.heap.size b c) : BW a c := h.trans k
theorem BW.alloc {a b : World} (h : BW a b) {o : Obj} : BW a (b.alloc o) := Below.alloc h h.size o
theorem BW.drewN {a b : World} (h : BW a b) {k : Nat} : BW a (b.drewN k) := ⟨h.os, h.tape, h.output, @BW.size a b h, h.block⟩
theorem BW.drew {a b : World} (h : BW a b) : BW a b.drew := ⟨h.os, h.tape, h.output, @BW.size a b h, h.block⟩
theorem BW.still {a b : World} (h : BW a b) (S : List Nat) : Still S a b := Still.of_below h
theorem BW.set {a b : World} (h : BW a b) {g o : Nat} (hg : a.heap.size ≤ g) {v : Value} : BW a (b.setCell ⟨g, o, none⟩ v) := Below.setCell (p := ⟨g, o, none⟩) h hg v
theorem BW.row {a b : World} (h : BW a b) {g : Nat} (hg : a.heap.size ≤ g) (cs : Array Value) : BW a (b.setRow g cs) := by
 refine h.trans' ⟨rfl, rfl, rfl, by simp [World.setRow], fun k hk => ?_⟩ (Nat.le_refl _)
 simp only [World.setRow, Array.getElem?_modify]
 rw [if_neg (by omega)]
theorem BW.up {a b : World} (h : BW a b) {B : Nat} (hB : B ≤ a.heap.size) : Below B a b := Below.mono h hB
theorem BW.step {a b c : World} (h : BW a b) {B : Nat} (k : Below B b c) (hB : a.heap.size ≤ B) : BW a c := Below.trans h (Below.mono k hB)
theorem BW.cell {a b : World} (h : BW a b) {p : Addr} {v : Value} (hc : a.cell? p = some v) : b.cell? p = some v := by rw [Below.cell h (World.block_lt_of_cell? _ _ hc)]; exact hc
theorem BW.heap {a b : World} (h : BW a b) {k : Nat} {o : Obj} (hc : a.heap[k]? = some o) : b.heap[k]? = some o := by rw [h.block k (Array.getElem?_eq_some_iff.1 hc).1]; exact hc
theorem BW.lt {a b : World} (h : BW a b) {k : Nat} (hk : k < a.heap.size) : k < b.heap.size := Nat.lt_of_lt_of_le hk h.size
theorem Sls.bw {a b : World} {size : Nat} {v : Value} {n : Nat} {xs : List Value} (h : Sls a size v n xs) (hb : BW a b) : Sls b size v n xs := h.below hb (Nat.le_refl _)
theorem Ows.bw {a b : World} {base : Nat} {E : TypeId} {size : Nat} {v : Value} {n : Nat} {xs : List Value} (h : Ows a base E size v n xs) (hb : BW a b) : Ows b base E size v n xs := h.below hb (Nat.le_refl _)
theorem SB.bw {a b : World} {v : Value} {n : Nat} {l : List Nat} (h : SB a v n l) (hb : BW a b) : SB b v n l := h.below hb (Nat.le_refl _)
theorem OB.bw {a b : World} {base : Nat} {E : TypeId} {v : Value} {n : Nat} {l : List Nat} (h : OB a base E v n l) (hb : BW a b) : OB b base E v n l := h.below hb (Nat.le_refl _)
def HpB (w : World) (k : Nat) (o : Obj) : Prop := w.heap[k]? = some o
theorem HpB.bw {a b : World} {k : Nat} {o : Obj} (h : HpB a k o) (hb : BW a b) : HpB b k o := hb.heap h
theorem HpB.new (w : World) (o : Obj) : HpB (w.alloc o) w.heap.size o := heap_alloc_new w o
theorem HpB.lt {w : World} {k : Nat} {o : Obj} (h : HpB w k o) : k < w.heap.size := (Array.getElem?_eq_some_iff.1 h).1
theorem OB.base {a b : World} {E : TypeId} {v : Value} {n : Nat} {l : List Nat} (h : OB b a.heap.size E v n l) {base : Nat} (hb : base ≤ a.heap.size) : OB b base E v n l := h.up hb
theorem BW.ofStill {a b : World} (h : Still [] a b) : BW a b := h.below (Nat.le_refl _) (by simp)
theorem LaterS.bw {a : World} (x : LaterS [] a) : BW a x.now := BW.ofStill x.ok
theorem Ows.takeN {w : World} {base : Nat} {E : TypeId} {size : Nat} {sa : Option Addr} {n cap : Nat} {xs : List Value} (h : Ows w base E size (.slice sa n cap) n xs) (k : Nat) (hk : k ≤ n) : Ows w base E size (.slice sa k cap) k (xs.take (k * size)) := by
 have hm : k * size ≤ n * size := Nat.mul_le_mul_right _ hk
 obtain ⟨h1, ⟨h2, h3⟩ | ⟨g, o, cap', cur, he, hg, hh, hn, hc, hs, ht⟩⟩ := h
 ·cases h2
  obtain rfl : k = 0 := by omega
  exact ⟨by simp, .inl ⟨rfl, rfl⟩⟩
 ·cases he
  exact ⟨by rw [List.length_take]; omega, .inr ⟨g, o, cap, cur, rfl, hg, hh, by omega, hc, hs, by rw [← ht, List.take_take, Nat.min_eq_left hm]⟩⟩
theorem OB.takeN {w : World} {base : Nat} {E : TypeId} {sa : Option Addr} {n cap : Nat} {l : List Nat} (h : OB w base E (.slice sa n cap) n l) (k : Nat) (hk : k ≤ n) : OB w base E (.slice sa k cap) k (l.take k) := by
 refine ⟨by rw [List.length_take, h.1]; omega, h.2.1.take k, ?_⟩
 have := h.2.2.takeN k hk
 rw [Nat.mul_one] at this
 have e : (bvs l).take k = bvs (l.take k) := by simp [bvs, List.map_take]
 rw [← e]; exact this
def Apt (a b : Value) : Prop := ∀ j, a.ownBlock = some j → b.ownBlock = some j → False
theorem Apt.nil (b : Value) : Apt (.slice none 0 0) b := fun j h => by cases h
theorem Apt.symm {a b : Value} (h : Apt a b) : Apt b a := fun j h1 h2 => h j h2 h1
theorem Apt.grow {a a' b : Value} (h : Apt a b) {n : Nat} (hG : ∀ j, a'.ownBlock = some j → a.ownBlock = some j ∨ n ≤ j) (hb : ∀ j, b.ownBlock = some j → j < n) : Apt a' b := fun j h1 h2 => by
 rcases hG j h1 with h3 | h3
 ·exact h j h3 h2
 ·have := hb j h2; omega
theorem OB.lt' {w : World} {base : Nat} {E : TypeId} {v : Value} {n : Nat} {l : List Nat} (h : OB w base E v n l) : ∀ j, v.ownBlock = some j → j < w.heap.size := fun j hj => (h.2.2.lt j hj).2
theorem OB.ge' {w : World} {base : Nat} {E : TypeId} {v : Value} {n : Nat} {l : List Nat} (h : OB w base E v n l) : ∀ j, v.ownBlock = some j → base ≤ j := fun j hj => (h.2.2.lt j hj).1
theorem HpB.st {w w' : World} {k : Nat} {o : Obj} {S : List Nat} (h : HpB w k o) (hs : Still S w w') (hk : k ∉ S) : HpB w' k o := (hs.block k h.lt hk).trans h
theorem Still.own3 {S0 S : List Nat} {a b c : World} (T : Still S0 a b) (h : Still S b c) (hS : ∀ k ∈ S, k ∈ S0 ∨ a.heap.size ≤ k) : Still S0 a c := by
 refine ⟨h.os.trans T.os, h.tape.trans T.tape, h.output.trans T.output, Nat.le_trans T.size h.size, fun k hk hs => ?_⟩
 rw [h.block k (Nat.lt_of_lt_of_le hk T.size) (fun hm => (hS k hm).elim hs (fun hl => Nat.lt_irrefl _ (Nat.lt_of_lt_of_le hk hl))), T.block k hk hs]
theorem BW.stP {a b c : World} (h : BW a b) {S : List Nat} (t : Still S b c) (hS : ∀ k ∈ S, a.heap.size ≤ k) : BW a c := h.step (t.below (B := a.heap.size) h.size hS) (Nat.le_refl _)
end Go.Proofs.YtafhnlnhflehhaaDoor
