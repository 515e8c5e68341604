/- append(s, make([]byte, k)...): the number in the slice's place. Nothing of the program; no condition but the sizes' bound. -/
import Derived.Test.YtikmhlbpefednaaGreatGKi
import Derived.Lib.AppendZerosOnto
namespace Go.Proofs.YtikmhlbpefednaaGreat
open Go.RowKit
theorem zeroCells_u8 (k : Nat) : (Builtin.zeroCells #[Value.int .u8 0] k).toList = bvs (List.replicate k 0) := by
 refine List.ext_getElem? fun j => ?_
 simp only [Builtin.zeroCells, bvs, List.map_replicate]
 simp
 rcases Nat.lt_or_ge j k with h | h
 ·simp [h, List.getElem?_replicate, Nat.mod_one]
 ·simp [Nat.not_lt.2 h, List.getElem?_replicate]
section
variable {P : Program} (w : World)
theorem run_append_room_zeros (kq : IntKind) (t tn ty e : TypeId) (i : TypeInfo) (kn : IntKind) (ht : P.underlying t = some (.slice e)) (htn : P.underlying tn = some (.int kn)) (hi : P.info? e = some i) (hz : i.zero = some (.int .u8 0)) (h1 : i.size = 1) (h2 : i.bytes = 1)
  (b off sLen sCap : Nat) (k : Nat) (hk : k ≤ 1000000000000) (hroom : sLen + k ≤ sCap) (hc : ∀ j, j < k → (w.cell? ⟨b, off + sLen + j, none⟩).isSome = true) (hf : ∀ j, j < k → w.frozen? ⟨b, off + sLen + j, none⟩ = false) :
  (Builtin.append_ #[t, tn] ty #[.slice (some ⟨b, off, none⟩) sLen sCap, .int kq k]).run P w = .ok (.slice (some ⟨b, off, none⟩) (sLen + k) sCap) (w.setCells b (off + sLen) (bvs (List.replicate k 0))) := by
 have hst := run_storeCells_cells (P := P) b (off + sLen) (bvs (List.replicate k 0)) 0 w (by simpa [bvs] using hc) (by simpa [bvs] using hf) (bvs_one _)
 simp only [Nat.add_zero] at hst
 have hw : IntKind.i64.wrap (k : Int) = k := by rw [IntKind.wrap_i64]; omega
 have hneg : ¬ ((k : Int) < 0) := by omega
 have h48i : ¬ (281474976710656 < (k : Int)) := by omega
 have hzc := zeroCells_u8 k
 have hv : (Value.int .u8 0).cells = #[.int .u8 0] := rfl
 by_cases hk0 : k = 0
 ·subst hk0
  have hw0 : IntKind.i64.wrap 0 = 0 := rfl
  have hr0 : sLen ≤ sCap := by omega
  have hs0 : (storeCells (⟨b, off + sLen, none⟩ : Addr) []).run P w = .ok () w := rfl
  simp [Builtin.append_, run_underlying ht, run_underlying htn, sizeOf, typeInfo, hi, h1, h2, asInt, asIntOf, hw0, hr0, Addr.add_lit, hs0]
  rfl
 ·simp [Builtin.append_, run_underlying ht, run_underlying htn, sizeOf, typeInfo, zeroValue, hi, hz, h1, h2, asInt, asIntOf, hw, hneg, h48i, hk0, hroom, Addr.add_lit, hv, hzc, hst]
theorem run_append_ob_zerosK (kq kn : IntKind) {T E tn : TypeId} (ht : P.underlying T = some (.slice E)) (hE : ∃ i, P.info? E = some i ∧ i.zero = some (.int .u8 0) ∧ i.size = 1 ∧ i.bytes = 1) (htn : P.underlying tn = some (.int kn)) (ty : TypeId) (base : Nat) (v : Value) (n : Nat) (l : List Nat) (hown : OB w base E v n l) (k : Nat)
  (hsz : n + k ≤ 1000000000000) (hbase : base ≤ w.heap.size) :
  ∃ v' w', (Builtin.append_ #[T, tn] ty #[v, .int kq k]).run P w = .ok v' w' ∧ OB w' base E v' (n + k) (l ++ List.replicate k 0) ∧ w.grownBy w' v.ownBlock ∧ ∀ j, v'.ownBlock = some j → v.ownBlock = some j ∨ w.heap.size ≤ j := by
 obtain ⟨i, hi, hz, h1, h2⟩ := hE
 obtain ⟨hll, hlb, hxl, hown⟩ := hown
 have hml : n + k ≤ maxLen := by unfold maxLen; omega
 have hrb : ByL (List.replicate k 0) := fun x hx => by rw [List.eq_of_mem_replicate hx]; decide
 have hlen : (l ++ List.replicate k 0).length = n + k := by rw [List.length_append, hll, List.length_replicate]
 have grown : ∀ (old : Nat) (sa : Option Addr), old < n + k → 0 < k → (Builtin.firstCells i.size n (.slice sa n old)).run P w.drew = .ok (bvs l).toArray w.drew →
   ∃ v' w', (Builtin.append_ #[T, tn] ty #[.slice sa n old, .int kq k]).run P w = .ok v' w' ∧ OB w' base E v' (n + k) (l ++ List.replicate k 0) ∧ (∀ row, w.grownBy w' row) ∧ ∀ j, v'.ownBlock = some j → w.heap.size ≤ j := by
  intro old sa ho hk0 hold
  have hr := Lib.run_append_grow_zeros (P := P) w T tn ty E i (.int .u8 0) kq kn ht htn hi hz sa n old (bvs l) hold k hk0 (by omega) ho (by unfold maxLen at hml; omega) (by rw [h2]; omega) (growslice_fits ho (by rw [h2]; omega))
  refine ⟨_, _, hr, ⟨hlen, hlb.append hrb, by rw [bvs_len, hlen]; omega, .inr ⟨w.heap.size, 0, _, _, rfl, hbase, heap_alloc_new w.drew _, grownCap_ge w _ _ _, grownCap_le_maxLen w _ _ _ hml, ?_, ?_⟩⟩, fun row => ⟨rfl, rfl, rfl, by simp, fun k hk _ => heap_alloc_old w.drew _ k hk⟩, fun k hk => by cases hk; exact Nat.le_refl _⟩
  ·have hge := grownCap_ge w (n + k) old E
   simp only [Array.size_append, List.size_toArray, size_zeroCells, bvs_len, hll]
   show 0 + _ ≤ _
   have : (Value.int IntKind.u8 0).cells.size = 1 := rfl
   rw [this]
   omega
  ·have hv : (Value.int .u8 0).cells = #[Value.int .u8 0] := rfl
   simp only [Array.toList_append, List.drop_zero, hv, zeroCells_u8]
   rw [bvs_append]
   have : (bvs (l ++ List.replicate k 0)).length = (n + k) * 1 := by rw [bvs_len, hlen]; omega
   rw [← this]
   exact List.take_left
 rcases hown with ⟨rfl, rfl⟩ | ⟨g, o, cap, cur, rfl, hbg, hg, hnc, hcm, hcs, htake⟩
 ·have hl0 : l = [] := List.eq_nil_of_length_eq_zero hll
  subst hl0
  by_cases hk0 : k = 0
  ·subst hk0
   refine ⟨.slice none 0 0, w, ?_, OB.nil w base E, ⟨rfl, rfl, rfl, Nat.le_refl _, fun _ _ _ => rfl⟩, fun k hk => by cases hk⟩
   have hw : IntKind.i64.wrap 0 = 0 := rfl
   simp [Builtin.append_, run_underlying ht, run_underlying htn, sizeOf, typeInfo, hi, h1, h2, asInt, asIntOf, hw]
  ·obtain ⟨v', w', e1, e2, e3, e4⟩ := grown 0 none (by omega) (by omega) (run_firstCells_none w.drew i.size 0 0 0)
   exact ⟨v', w', e1, e2, e3 _, fun k hk => .inr (e4 k hk)⟩
 ·by_cases hroom : n + k ≤ cap
  ·have hfit : o + n + (bvs (List.replicate k 0)).length ≤ cur.size := by rw [bvs_len, List.length_replicate]; omega
   have hr := run_append_room_zeros (P := P) w kq T tn ty E i kn ht htn hi hz h1 h2 g o n cap k (by omega) hroom (fun j hj => by
     simp only [World.cell?, hg, Option.isSome_none, Bool.false_eq_true, if_false]
     rw [Array.getElem?_eq_getElem (by rw [bvs_len, List.length_replicate] at hfit; omega)]; rfl) (fun j hj => by simp [World.frozen?, hg])
   obtain ⟨cur', q1, q2, q3⟩ := setCells_heap_eq g (bvs (List.replicate k 0)) (o + n) w cur E (0, 0) hg hfit
   obtain ⟨f1, f2, f3, f4⟩ := setCells_frame g (bvs (List.replicate k 0)) (o + n) w
   refine ⟨_, _, hr, ⟨hlen, hlb.append hrb, by rw [bvs_len, hlen]; omega, .inr ⟨g, o, cap, cur', rfl, hbg, q1, hroom, hcm, by rw [q2]; exact hcs, ?_⟩⟩, ⟨f1, f2, f3, by rw [f4]; exact Nat.le_refl _, fun k _ hk => setCells_other g _ _ w k (fun e => hk (by rw [e]; rfl))⟩, fun k hk => .inl hk⟩
   rw [← bvs_append]
   refine List.ext_getElem? fun j => ?_
   rw [List.getElem?_take]
   by_cases hj : j < (n + k) * 1
   ·rw [if_pos hj, List.getElem?_drop, q3]
    by_cases hjn : j < n
    ·rw [if_neg (by omega), List.getElem?_append_left (by rw [bvs_len]; omega), ← htake, List.getElem?_take, if_pos (by omega), List.getElem?_drop]
    ·rw [if_pos (by rw [bvs_len, List.length_replicate]; omega), List.getElem?_append_right (by rw [bvs_len]; omega), bvs_len]
     congr 1; omega
   ·rw [if_neg hj, List.getElem?_eq_none (by rw [List.length_append, bvs_len, bvs_len, List.length_replicate]; omega)]
  ·have holds : (Builtin.firstCells i.size n (.slice (some ⟨g, o, none⟩) n cap)).run P w.drew = .ok (bvs l).toArray w.drew := by
    refine run_firstCells_some w.drew i.size n ⟨g, o, none⟩ n cap (bvs l) (by rw [h1]; exact hxl) (fun j u hj => ?_)
    have hlt := (List.getElem?_eq_some_iff.1 hj).1
    rw [Addr.add_mid, ← hj, ← htake, List.getElem?_take, if_pos (by rw [hxl] at hlt; exact hlt), List.getElem?_drop]
    show w.cell? _ = _
    simp [World.cell?, hg]
   obtain ⟨v', w', e1, e2, e3, e4⟩ := grown cap (some ⟨g, o, none⟩) (by omega) (by omega) holds
   exact ⟨v', w', e1, e2, e3 _, fun k hk => .inr (e4 k hk)⟩
theorem run_append_ob_zeros {T E tn : TypeId} (ht : P.underlying T = some (.slice E)) (hE : ∃ i, P.info? E = some i ∧ i.zero = some (.int .u8 0) ∧ i.size = 1 ∧ i.bytes = 1) (htn : P.underlying tn = some (.int .i64)) (ty : TypeId) (base : Nat) (v : Value) (n : Nat) (l : List Nat) (hown : OB w base E v n l) (k : Nat)
  (hsz : n + k ≤ 1000000000000) (hbase : base ≤ w.heap.size) :
  ∃ v' w', (Builtin.append_ #[T, tn] ty #[v, .int .i64 k]).run P w = .ok v' w' ∧ OB w' base E v' (n + k) (l ++ List.replicate k 0) ∧ w.grownBy w' v.ownBlock ∧ ∀ j, v'.ownBlock = some j → v.ownBlock = some j ∨ w.heap.size ≤ j :=
 run_append_ob_zerosK w .i64 .i64 ht hE htn ty base v n l hown k hsz hbase
end
end Go.Proofs.YtikmhlbpefednaaGreat
