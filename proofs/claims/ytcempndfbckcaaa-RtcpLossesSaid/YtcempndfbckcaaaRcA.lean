/- rtcp.readers: a map of eight keys, filled in whatever order. No condition. -/
import Derived.Test.YtcempndfbckcaaaBw
import Derived.Test.YtcempndfbckcaaaMp
import Derived.Test.YtcempndfbckcaaaUn
import Derived.Test.YtcempndfbckcaaaPre
namespace Go.Proofs.Ytcempndfbckcaaa
open Go.RowKit

def fnV (f : FuncId) : Value := .func (.func f) #[] #[]
def kindV (a b : Int) : Value := .agg #[.int .i64 a, .int .i64 b]
def kv (i : Nat) : Value × Value := ([(kindV 200 (-1), fnV 132), (kindV 201 (-1), fnV 133), (kindV 202 (-1), fnV 134), (kindV 203 (-1), fnV 135),
  (kindV 205 1, fnV 136), (kindV 206 1, fnV 137), (kindV 206 4, fnV 138), (kindV 206 15, fnV 139)] : List (Value × Value)).getD i (.nilIface, .nilIface)
theorem kindLaw : Maps.Keyed Try.prog 200 :=
  Maps.Keyed.of_law (deep_law_laid (show laidOutB Try.prog = true by kernel_rfl) (m := 2) (by omega) (of_decide_eq_true (by kernel_rfl)) (by kernel_rfl) (by rw [Try.underlying200]))
theorem kv_keys : (List.range 8).all (fun i => (keyOf Try.prog 200 (kv i).1).isSome) = true := by kernel_rfl
theorem kv_key (i : Nat) (hi : i < 8) : ∃ l, keyOf Try.prog 200 (kv i).1 = some l :=
  Option.isSome_iff_exists.1 (List.all_eq_true.1 kv_keys i (List.mem_range.2 hi))
theorem bw_stl {a b c : World} (h : BW a b) {S : List Nat} (t : Still S b c) (hS : ∀ k ∈ S, a.heap.size ≤ k) : BW a c := h.step (t.below (B := a.heap.size) h.size hS) (Nat.le_refl _)
theorem kv_ne (i j : Nat) (hi : i < 8) (hj : j < 8) (h : i ≠ j) : (kv i).1 ≠ (kv j).1 := by
  match i, hi, j, hj with
  | 0, _, 0, _ | 1, _, 1, _ | 2, _, 2, _ | 3, _, 3, _ | 4, _, 4, _ | 5, _, 5, _ | 6, _, 6, _ | 7, _, 7, _ => exact (h rfl).elim
  | 0, _, 1, _ | 0, _, 2, _ | 0, _, 3, _ | 0, _, 4, _ | 0, _, 5, _ | 0, _, 6, _ | 0, _, 7, _ => simp [kv, kindV]
  | 1, _, 0, _ | 1, _, 2, _ | 1, _, 3, _ | 1, _, 4, _ | 1, _, 5, _ | 1, _, 6, _ | 1, _, 7, _ => simp [kv, kindV]
  | 2, _, 0, _ | 2, _, 1, _ | 2, _, 3, _ | 2, _, 4, _ | 2, _, 5, _ | 2, _, 6, _ | 2, _, 7, _ => simp [kv, kindV]
  | 3, _, 0, _ | 3, _, 1, _ | 3, _, 2, _ | 3, _, 4, _ | 3, _, 5, _ | 3, _, 6, _ | 3, _, 7, _ => simp [kv, kindV]
  | 4, _, 0, _ | 4, _, 1, _ | 4, _, 2, _ | 4, _, 3, _ | 4, _, 5, _ | 4, _, 6, _ | 4, _, 7, _ => simp [kv, kindV]
  | 5, _, 0, _ | 5, _, 1, _ | 5, _, 2, _ | 5, _, 3, _ | 5, _, 4, _ | 5, _, 6, _ | 5, _, 7, _ => simp [kv, kindV]
  | 6, _, 0, _ | 6, _, 1, _ | 6, _, 2, _ | 6, _, 3, _ | 6, _, 4, _ | 6, _, 5, _ | 6, _, 7, _ => simp [kv, kindV]
  | 7, _, 0, _ | 7, _, 1, _ | 7, _, 2, _ | 7, _, 3, _ | 7, _, 4, _ | 7, _, 5, _ | 7, _, 6, _ => simp [kv, kindV]

/-- The map's block: what is in it are the flagged ones of the eight. -/
def KvIn (w0 : World) (g : Nat) (b : List Bool) (w : World) : Prop := w0.heap.size ≤ g ∧ BW w0 w ∧ ∃ s, MapIn w g s ∧ ∀ p, p ∈ s ↔ ∃ i, i < 8 ∧ b.getD i false = true ∧ p = kv i
theorem KvIn.still {w0 : World} {g : Nat} {b : List Bool} {w w' : World} (h : KvIn w0 g b w) (hs : Still [] w w') : KvIn w0 g b w' := by
  obtain ⟨h0, hb, s, hm, hp⟩ := h
  exact ⟨h0, hb.trans (BW.ofStill hs), s, hm.still hs (by simp), hp⟩
theorem KvIn.ins {w0 : World} {g : Nat} {b : List Bool} {w : World} (h : KvIn w0 g b w) (hbl : b.length = 8) (i : Nat) (hi : i < 8) (hf : b.getD i true = false) :
    ∃ w', (Instr.mapUpdate 203 (.map (some g)) (kv i).1 (kv i).2).run Try.prog w = .ok () w' ∧ KvIn w0 g (b.set i true) w' := by
  obtain ⟨h0, hb, s, hm, hp⟩ := h
  have hkeys : ∀ p ∈ s, ∃ l, keyOf Try.prog 200 p.1 = some l := fun p hpm => by
    obtain ⟨j, hj, _, rfl⟩ := (hp p).1 hpm
    exact kv_key j hj
  obtain ⟨l, hl⟩ := kv_key i hi
  have hfi : b.getD i false = false := by
    rw [List.getD_eq_getElem?_getD, List.getElem?_eq_getElem (by omega)] at hf ⊢
    simpa using hf
  have hnew : ∀ p ∈ s, p.1 ≠ (kv i).1 := fun p hpm => by
    obtain ⟨j, hj, hbj, rfl⟩ := (hp p).1 hpm
    refine kv_ne j i hj hi fun e => ?_
    rw [e, hfi] at hbj
    cases hbj
  obtain ⟨w', h1, h2, h3⟩ := hm.insert kindLaw Try.underlying203 hkeys hl hnew (val := (kv i).2)
  refine ⟨w', h1, h0, bw_stl hb h3 (by simpa using h0), _, h2, fun p => ?_⟩
  rw [List.mem_append, hp p, List.mem_singleton]
  constructor
  · rintro (⟨j, hj, hbj, rfl⟩ | rfl)
    · refine ⟨j, hj, ?_, rfl⟩
      rw [List.getD_eq_getElem?_getD, List.getElem?_set]
      split
      · rw [if_pos (by omega)]; rfl
      · rw [← List.getD_eq_getElem?_getD]; exact hbj
    · refine ⟨i, hi, ?_, rfl⟩
      rw [List.getD_eq_getElem?_getD, List.getElem?_set_self (by omega)]; rfl
  · rintro ⟨j, hj, hbj, rfl⟩
    by_cases e : i = j
    · subst e; exact .inr rfl
    · refine .inl ⟨j, hj, ?_, rfl⟩
      rw [List.getD_eq_getElem?_getD, List.getElem?_set_ne e, ← List.getD_eq_getElem?_getD] at hbj
      exact hbj

/-- An insert, at the operation. -/
theorem wp_ins {a : Act} {o : Oper} {w w0 : World} {K : Act → World → Prop} {Q : Exit → Act → World → Prop} {g i : Nat} {b : List Bool} {k : Operand} {f : Operand} (ho : o.op = .insert 203 (.tmp 1) k f) (hd : o.dst = none)
    (hm : a.eval (.tmp 1) = .map (some g)) (hk : a.eval k = (kv i).1) (hf : a.eval f = (kv i).2) (h : KvIn w0 g b w) (hbl : b.length = 8) (hi : i < 8) (hfl : b.getD i true = false) (hK : ∀ w', KvIn w0 g (b.set i true) w' → K a w') : o.wp Try.prog a w K Q := by
  obtain ⟨w', h1, h2⟩ := h.ins hbl i hi hfl
  unfold Oper.wp
  simp only [execOp, ho, hm, hk, hf]
  simp [h1, Result.andThen, Oper.upon, Act.put, hd]
  exact hK w' h2
end Go.Proofs.Ytcempndfbckcaaa
