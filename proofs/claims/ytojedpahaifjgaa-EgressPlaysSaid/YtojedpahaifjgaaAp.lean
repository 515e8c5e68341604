/- Slices of bytes that the call itself makes: append by whole pieces and by single bytes. No condition but the sizes' bound. -/
import Derived.Test.YtojedpahaifjgaaGBa
import Derived.Laws.AppendOwnNone
import Derived.OwnWalk
namespace Go.Proofs.Ytojedpahaifjgaa
open Go.RowKit
theorem u8info : Try.prog.info? 5 = some Try.t5 := by kernel_rfl
theorem u8zero : Try.t5.zero = some (.int .u8 0) := by kernel_rfl
theorem u8size : Try.t5.size = 1 := by kernel_rfl
theorem u8bytes : Try.t5.bytes = 1 := by kernel_rfl
def bv (l : List Int) : List Value := l.map fun x => Value.int .u8 x
def OwnB (w : World) (base : Nat) (v : Value) (l : List Int) : Prop := w.ownsRow base 5 1 v l.length (bv l)
theorem OwnB.nil (w : World) (base : Nat) : OwnB w base (.slice none 0 0) [] := ⟨rfl, .inl ⟨rfl, rfl⟩⟩
theorem OwnB.new (w : World) (base : Nat) (c : Array Value) (l : List Int) (n : Nat) (hb : base ≤ w.heap.size) (hn : n = l.length) (hm : n ≤ maxLen) (hc : c.toList = bv l) :
  OwnB (w.alloc (.cells c 5)) base (.slice (some ⟨w.heap.size, 0, none⟩) n n) l := by
 subst hn
 have hsz : c.size = l.length := by rw [← Array.length_toList, hc]; simp [bv]
 refine ⟨by simp [bv], .inr ⟨w.heap.size, l.length, c, rfl, hb, ?_, Nat.le_refl _, hm, by omega, ?_⟩⟩
 ·show (w.heap.push _)[w.heap.size]? = _; simp
 ·rw [hc, List.take_of_length_le (by simp [bv])]
theorem OwnB.slB {w : World} {base : Nat} {v : Value} {l : List Int} (h : OwnB w base v l) (hl : ∀ x ∈ l, 0 ≤ x ∧ x ≤ 255) : ∃ sa cp, v = .slice sa l.length cp ∧ SlB w sa l.length cp l := by
 obtain ⟨h1, h2 | ⟨g, cap, cur, rfl, hb, hh, hn, hc, hs, ht⟩⟩ := h
 ·obtain ⟨rfl, h0⟩ := h2
  have : l = [] := List.eq_nil_of_length_eq_zero h0
  subst this
  exact ⟨none, 0, rfl, rfl, Nat.le_refl _, by decide, hl, .inl ⟨rfl, fun _ => rfl⟩⟩
 ·refine ⟨_, _, rfl, rfl, hn, hc, hl, .inr ⟨g, 0, rfl, ?_, fun i hi => ?_⟩⟩
  ·rcases Nat.lt_or_ge g w.heap.size with h | h
   ·exact h
   ·simp [h] at hh
  ·simp only [World.cell?, hh]
   have : cur[0 + i]? = (cur.toList.take (l.length * 1))[i]? := by
    rw [List.getElem?_take, if_pos (by omega)]; simp
   rw [ht] at this
   simp only [Option.isSome_none, Bool.false_eq_true, if_false]
   rw [this, bv, List.getElem?_map, List.getElem?_eq_getElem hi]
   simp [List.getD_eq_getElem?_getD, List.getElem?_eq_getElem hi]
theorem OwnB.below {w w' : World} {base B : Nat} {v : Value} {l : List Int} (h : OwnB w base v l) (hb : Below B w w') (hB : w.heap.size ≤ B) : OwnB w' base v l := by
 obtain ⟨h1, h2 | ⟨g, cap, cur, rfl, hg, hh, r⟩⟩ := h
 ·exact ⟨h1, .inl h2⟩
 ·refine ⟨h1, .inr ⟨g, cap, cur, rfl, hg, ?_, r⟩⟩
  rw [hb.block g ?_, hh]
  have : g < w.heap.size := by
   rcases Nat.lt_or_ge g w.heap.size with h | h
   ·exact h
   ·simp [h] at hh
  omega
theorem wp_app {w : World} {ops : Array Oper} {rest : List Oper} {o : Oper} {a : Act} {Q : Exit → Act → World → Prop} (hgd : o.guard = none) (s x : Operand)
  (ho : o.op = .call { callee := .builtin .append, args := #[s, x], argTypes := #[34, 34] }) (base : Nat) (v : Value) (l m : List Int) (hs : a.eval s = v) (hown : OwnB w base v l)
  (sa : Option Addr) (ln cp : Nat) (hx : a.eval x = .slice sa ln cp) (hm : SlB w sa ln cp m) (hsum : l.length + m.length ≤ 140737488355328) (hbase : base ≤ w.heap.size)
  (h : ∀ v' w', OwnB w' base v' (l ++ m) → w.grownBy w' v.ownBlock → (v' = .slice none 0 0 ↔ v = .slice none 0 0 ∧ m = []) → wpList Try.prog ops Q rest (a.put o.dst v') w') : wpList Try.prog ops Q (o :: rest) a w := by
 obtain ⟨h1, h2, h3, h4, h5⟩ := hm
 subst h1
 rcases h5 with ⟨h0, hc⟩ | ⟨b, off, rfl, hlt, hcell⟩
 ·have hm0 : m = [] := List.eq_nil_of_length_eq_zero h0
  subst hm0
  cases sa with
  | none =>
   have := hc rfl
   subst this
   exact wpList_append_own_none hgd s x 34 ho base 5 Try.t5 1 Try.underlying34 u8info v l.length (bv l) hs hown hx
    (h v w (by simpa using hown) ⟨rfl, rfl, rfl, Nat.le_refl _, fun _ _ _ => rfl⟩ (by simp))
  | some ad =>
   refine wpList_append_own w hgd s x 34 ho base 5 Try.t5 (.int .u8 0) 1 1 Try.underlying34 u8info u8zero u8size u8bytes rfl (by decide) v l.length (bv l) hs hown ad 0 cp [] hx rfl (by simp) (by simp) (by unfold maxLen; simp at hsum; omega) (by simp at hsum; omega) hbase fun v' w' k1 k2 k3 => h v' w' (by unfold OwnB; simpa using k1) k2 (by simpa using k3)
 ·refine wpList_append_own w hgd s x 34 ho base 5 Try.t5 (.int .u8 0) 1 1 Try.underlying34 u8info u8zero u8size u8bytes rfl (by decide) v l.length (bv l) hs hown ⟨b, off, none⟩ m.length cp (bv m) hx (by simp [bv]) (fun j u hj => ?_) (by simp [bv, Value.oneCell']) (by unfold maxLen; omega) (by omega) hbase fun v' w' k1 k2 k3 => h v' w' ?_ k2 ?_
  ·have hjm : j < m.length := by have := (List.getElem?_eq_some_iff.1 hj).1; simpa [bv] using this
   have e : (⟨b, off, none⟩ : Addr).add j = ⟨b, off + j, none⟩ := by simp only [Addr.add]; split <;> simp_all
   rw [e, hcell j hjm]
   rw [bv, List.getElem?_map, List.getElem?_eq_getElem hjm] at hj
   simp at hj
   rw [← hj]
   simp [List.getD_eq_getElem?_getD, List.getElem?_eq_getElem hjm]
  ·unfold OwnB; rw [List.length_append]; simpa [bv] using k1
  ·rw [k3]; simp
theorem OwnB.grown {w w' : World} {B : Nat} (hB : B ≤ w.heap.size) {v : Value} {l : List Int} (h : OwnB w B v l) (hg : w.grownBy w' v.ownBlock) : Below B w w' := by
 refine (Below.refl B w).grown hg hB fun k hk => ?_
 obtain ⟨h1, ⟨rfl, _⟩ | ⟨g, cap, cur, rfl, hb, _⟩⟩ := h
 ·simp [Value.ownBlock] at hk
 ·simp [Value.ownBlock] at hk; omega
end Go.Proofs.Ytojedpahaifjgaa
