/- A house of rooms in memory: members with tracks' places and subscriptions. No condition. -/
import Derived.Test.YtebeifkgjhgmeaaRmR
import Derived.Test.YtebeifkgjhgmeaaI1d
import Derived.Test.YtebeifkgjhgmeaaPuE
namespace Go.Proofs.Ytebeifkgjhgmeaa
open Go.RowKit
def subV (x : Sbs) : List Value := [.int .i64 x.o, .int .i64 x.t, .int .i64 x.l, .int .u32 (x.s : Nat)]
def ESb : Elt Sbs := pureE 4 subV (by decide) (fun _ => rfl) (fun r u hu => by simp only [subV, List.mem_cons, List.not_mem_nil, or_false] at hu; rcases hu with rfl | rfl | rfl | rfl <;> rfl)
def u32V (x : Nat) : List Value := [.int .u32 (x : Nat)]
def EU4 : Elt Nat := pureE 1 u32V (by decide) (fun _ => rfl) (fun r u hu => by simp only [u32V, List.mem_cons, List.not_mem_nil, or_false] at hu; rw [hu]; rfl)
theorem slSb : SlTy Try.prog 43 50 4 32 := SlTy.mk' Try.underlying43 (by kernel_rfl) (by decide)
theorem slU4 : SlTy Try.prog 30 48 1 4 := SlTy.mk' Try.underlying30 (by kernel_rfl) (by decide)
theorem slIn : SlTy Try.prog 39 3 1 8 := SlTy.mk' Try.underlying39 (by kernel_rfl) (by decide)
def memC (m : Mem) (va vb vs : Value) : List Value := [.int .i64 m.r, .bool m.a.is, .int .i64 m.a.c, va, .bool m.b.is, .int .i64 m.b.c, vb, vs, .int .u64 (m.n : Nat)]
def NoI (w : World) (k : Nat) : Prop := w.heap.size ≤ k ∨ ∃ cs t f, w.heap[k]? = some (.cells cs t f) ∧ t ≠ 3
theorem EQ.apartI {α : Type} {E : Elt α} {T : TypeId} {w : World} {base : Nat} {v : Value} {n : Nat} {l : List α} (h : EQ E T w base v n l) {S : List Nat} (hS : ∀ k ∈ S, w.heap.size ≤ k ∨ ∃ cs t f, w.heap[k]? = some (.cells cs t f) ∧ t ≠ T) : ∀ g, v.ownBlock = some g → g ∉ S := fun g hg hm => by
 rcases hS g hm with hk | ⟨cs, t, f, h1, h2⟩
 ·have := h.lt' g hg; omega
 ·exact h.ne h1 h2 g hg rfl
def EMb : Elt (Mem × Value) where
 size := 9
 R := fun w b p cs => ∃ va vb, cs = memC p.1 va vb p.2 ∧ p.2.oneCell' = true ∧ EQ I1 3 w b va p.1.a.p.length p.1.a.p ∧ EQ I1 3 w b vb p.1.b.p.length p.1.b.p
 Ok := NoI
 pos := by decide
 len := fun ⟨_, _, e, _⟩ => by rw [e]; rfl
 one := fun ⟨va, vb, e, h0, h1, h2⟩ u hu => by
  obtain ⟨_, _, e1, _⟩ := h1.len
  obtain ⟨_, _, e2, _⟩ := h2.len
  rw [e] at hu
  simp only [memC, List.mem_cons, List.not_mem_nil, or_false] at hu
  rcases hu with rfl | rfl | rfl | rfl | rfl | rfl | rfl | rfl | rfl <;> first | rfl | (rw [e1]; rfl) | (rw [e2]; rfl) | exact h0
 bw := fun ⟨va, vb, e, h0, h1, h2⟩ hb => ⟨va, vb, e, h0, h1.bw hb, h2.bw hb⟩
 up := fun ⟨va, vb, e, h0, h1, h2⟩ hb => ⟨va, vb, e, h0, h1.up hb, h2.up hb⟩
 still := fun ⟨va, vb, e, h0, h1, h2⟩ hs hS => ⟨va, vb, e, h0, h1.still hs (fun _ _ => trivial) (h1.apartI hS), h2.still hs (fun _ _ => trivial) (h2.apartI hS)⟩
 old := fun ⟨va, vb, e, h0, h1, h2⟩ hs hS => ⟨va, vb, e, h0, h1.old hs hS, h2.old hs hS⟩
def ESo : Elt (List Nat) where
 size := 1
 R := fun w b l cs => ∃ v, cs = [v] ∧ EQ EU4 48 w b v l.length l
 Ok := fun w k => w.heap.size ≤ k ∨ ∃ cs t f, w.heap[k]? = some (.cells cs t f) ∧ t ≠ 48
 pos := by decide
 len := fun ⟨_, e, _⟩ => by rw [e]; rfl
 one := fun ⟨v, e, h⟩ u hu => by
  obtain ⟨_, _, e1, _⟩ := h.len
  rw [e] at hu
  obtain rfl : u = v := by simpa using hu
  rw [e1]; rfl
 bw := fun ⟨v, e, h⟩ hb => ⟨v, e, h.bw hb⟩
 up := fun ⟨v, e, h⟩ hb => ⟨v, e, h.up hb⟩
 still := fun ⟨v, e, h⟩ hs hS => ⟨v, e, h.still hs (fun _ _ => trivial) (h.apartI hS)⟩
 old := fun ⟨v, e, h⟩ hs hS => ⟨v, e, h.old hs hS⟩
structure HouseV (w : World) (base g : Nat) (vS vL : Value) (S : List (List Nat)) (L : List (Mem × Value)) : Prop where
 hp : HpB w g (.cells #[vS, vL] 64)
 so : EQ ESo 30 w base vS S.length S
 mb : EQ EMb 45 w base vL L.length L
 sb : ∀ p ∈ L, EQ ESb 50 w base p.2 p.1.subs.length p.1.subs
 ap : (L.map Prod.snd).Pairwise fun v v' => ∀ k, v.ownBlock = some k → v'.ownBlock ≠ some k
theorem HouseV.bw {w w' : World} {base g : Nat} {vS vL : Value} {S : List (List Nat)} {L : List (Mem × Value)} (h : HouseV w base g vS vL S L) (hb : BW w w') : HouseV w' base g vS vL S L := ⟨h.hp.bw hb, h.so.bw hb, h.mb.bw hb, fun p hp => (h.sb p hp).bw hb, h.ap⟩
end Go.Proofs.Ytebeifkgjhgmeaa
