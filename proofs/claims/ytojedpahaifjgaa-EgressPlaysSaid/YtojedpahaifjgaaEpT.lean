/- The reference's writer by the program's plain data: Follow and Map, whatever comes; a payload's picture. No condition but the numbers' bounds. -/
import Derived.Test.YtojedpahaifjgaaEpF
import Derived.Test.YtojedpahaifjgaaEsQ
namespace Go.Proofs.Ytojedpahaifjgaa
open Go.RowKit
theorem W22.st {w w' : World} {base g : Nat} {first : Int} {fol : Bool} {a b : Mpd} {v : Value} {L : List Mpd} (h : W22 w base g first fol a b v L) {S : List Nat} (hs : Still S w w') (hg : g ∉ S) (hv : ∀ k, v.ownBlock = some k → k ∉ S) : W22 w' base g first fol a b v L := ⟨h.hp.st hs hg, h.q.still hs (fun _ _ => trivial) hv⟩
theorem W22.stT {w w' : World} {base g : Nat} {first : Int} {fol : Bool} {a b : Mpd} {v : Value} {L : List Mpd} (h : W22 w base g first fol a b v L) {k : Nat} {cs : Array Value} {t : TypeId} (hs : Still [k] w w') (hk : HpB w k (.cells cs t)) (ht : 129 ≠ t) (ht2 : t ≠ 51) : W22 w' base g first fol a b v L :=
 h.st hs (by simpa using hp_ne h.hp hk ht) (fun j hj hm => by
  obtain rfl : j = k := by simpa using hm
  exact h.q.ne hk ht2 _ hj rfl)
theorem W22.row {w : World} {base g : Nat} {first : Int} {fol : Bool} {a b : Mpd} {v : Value} {L : List Mpd} (h : W22 w base g first fol a b v L) : ∀ j, v.ownBlock = some j → j < w.heap.size := fun j hj => h.q.lt' j hj
theorem follow22_any (base g : Nat) (first : Int) (W : Wr) (fol : Bool) (a b : Mpd) (v : Value) (L : List Mpd) (K i s p : Int) (hR : WrR W fol a b L K) (hK : K ≤ 1152921504606846976) (hp : 0 ≤ p ∧ p ≤ 65535) (w : World) (h : W22 w base g first fol a b v L) :
  Calls Try.prog 60 #[.pointer (some ⟨g, 0, none⟩), .agg #[.int .i64 i, .int .u32 s, .int .u16 p]] w fun e w' => (∃ er : Int, e = .returned (.int .i64 er)) ∧ (∃ (fol' : Bool) (a' b' : Mpd), W22 w' base g first fol' a' b' v L ∧ WrR (W.follow first i s p) fol' a' b' L K) ∧ Still [g] w w' := by
 by_cases hi : 0 ≤ i
 ·exact (follow_ok base g first fol a b (i, s, p) v L hi (fun k hk => by have := hR.bd k hk; omega) w h).mono fun _ _ ⟨k1, k2, k3⟩ => ⟨⟨_, k1⟩, ⟨_, _, _, k2, hR.follow first i s p hi hp⟩, k3⟩
 ·exact (follow22_neg base g first fol a b (i, s, p) v L (by show i < 0; omega) w).mono fun _ _ ⟨k1, k2⟩ => ⟨⟨_, k1⟩, ⟨_, _, _, h.bw k2, by rw [follow_neg' (by omega)]; exact hR⟩, k2.still _⟩
theorem map22_any (base g : Nat) (first : Int) (W : Wr) (fol : Bool) (a b : Mpd) (v : Value) (L : List Mpd) (K K' i s p : Int) (hR : WrR W fol a b L K) (hO : W.Ok' first) (hK : K ≤ K') (hK2 : W.b0 + i ≤ K') (hi : i ≤ 1152921504606846976) (hp : 0 ≤ p ∧ p ≤ 65535) (hL : L.length ≤ 1000000) (w : World) (hbase : base ≤ w.heap.size) (h : W22 w base g first fol a b v L) (M : Option (Int × Int × Int) × Wr) (hM : W.map i s p = M) :
  Calls Try.prog 61 #[.pointer (some ⟨g, 0, none⟩), .agg #[.int .i64 i, .int .u32 s, .int .u16 p]] w fun e w' => ∃ n0 n1 n2 er : Int, e = .returned (.tuple #[.agg #[.int .i64 n0, .int .u32 n1, .int .u16 n2], .int .i64 er]) ∧ MapR M.1 n0 n1 n2 er ∧ (∃ (v' : Value) (L' : List Mpd), W22 w' base g first fol a b v' L' ∧ WrR M.2 fol a b L' K' ∧ L'.length ≤ L.length + 1 ∧ (∀ j, v'.ownBlock = some j → v.ownBlock = some j ∨ w.heap.size ≤ j)) ∧ Still (g :: v.ownBlock.toList) w w' := by
 subst hM
 have ea : a.1 = W.a0 := by rw [hR.a]
 have eb : b.1 = W.b0 := by rw [hR.b]
 have ea2 : a.2.2 = W.a2 := by rw [hR.a]
 have eb2 : b.2.2 = W.b2 := by rw [hR.b]
 have hb := hO.b
 have hno : ∀ (er : Int), (er != 0) = true → fol = false ∨ i < 0 ∨ i < a.1 → ∀ (e : Ending) (w' : World), e = .returned (.tuple #[.agg #[.int .i64 0, .int .u32 0, .int .u16 0], .int .i64 er]) → BW w w' → ∃ n0 n1 n2 er : Int, e = .returned (.tuple #[.agg #[.int .i64 n0, .int .u32 n1, .int .u16 n2], .int .i64 er]) ∧ MapR (W.map i s p).1 n0 n1 n2 er ∧ (∃ (v' : Value) (L' : List Mpd), W22 w' base g first fol a b v' L' ∧ WrR (W.map i s p).2 fol a b L' K' ∧ L'.length ≤ L.length + 1 ∧ (∀ j, v'.ownBlock = some j → v.ownBlock = some j ∨ w.heap.size ≤ j)) ∧ Still (g :: v.ownBlock.toList) w w' := by
  intro er her hn e w' he hb
  rw [hR.refuse i s p hn]
  exact ⟨0, 0, 0, er, he, .inl ⟨rfl, her⟩, ⟨v, L, h.bw hb, hR.up hK, by omega, fun _ hj => .inl hj⟩, hb.still _⟩
 cases hf : fol with
 | false =>
  subst hf
  exact (map22_no1 base g first a b (i, s, p) v L w h).mono fun e w' ⟨k1, k2⟩ => hno 10 rfl (.inl rfl) e w' k1 k2
 | true =>
  subst hf
  by_cases h1 : i < 0
  ·exact (map22_no2 base g first a b (i, s, p) v L h1 w h).mono fun e w' ⟨k1, k2⟩ => hno 10 rfl (.inr (.inl h1)) e w' k1 k2
  by_cases h2 : i < a.1
  ·exact (map22_old base g first a b (i, s, p) v L (by show 0 ≤ i; omega) h2 w h).mono fun e w' ⟨k1, k2⟩ => hno 5 rfl (.inr (.inr h2)) e w' k1 k2
  have ha0 := hO.a hR.f
  have hpa := hR.pa
  have hpb := hR.pb
  obtain ⟨W', hW', hR'⟩ := (hR.up hK).map i s p (by omega) (by omega) (by omega) hO.o (by omega)
  rw [hW']
  refine (map22_ok base g first a b (i, s, p) v L (by show 0 ≤ i; omega) (by show a.1 ≤ i; omega) hp (by omega) (by omega) (by omega) (by omega) hi hL w hbase h).mono ?_
  rintro e w' ⟨k1, v', k2, k3, k4⟩
  refine ⟨_, _, _, 0, k1, .inr ⟨rfl, rfl⟩, ⟨v', _, k2, hR', by rw [List.length_append, List.length_singleton]; omega, k4⟩, k3⟩
theorem no_pic {l : List Int} {b0 : Bool} {n1 : Int} {b3 : Bool} {n4 : Int} {b5 : Bool} {n6 pl er : Int} (h : rOut l = (#[.bool b0, .int .u8 n1, .bool false, .bool b3, .int .u16 n4, .bool b5, .int .i64 n6], pl, er)) : n4 = 0 := by
 unfold rOut at h
 split at h
 ·simp [vpZero] at h
  omega
 ·split at h
  ·simp [vpZero] at h
   omega
  ·by_cases hh : 128 ≤ rSec l
   ·exfalso
    have hN : (rNum l (rSec l) (rAt1 l)).2.1 = true := by
     unfold rNum
     rw [if_pos hh]
     split <;> rfl
    rw [hN] at h
    simp at h
   ·have hN : (rNum l (rSec l) (rAt1 l)).2.2.2.1 = 0 := by
     unfold rNum
     rw [if_neg hh]
    rw [hN] at h
    simp only [Prod.mk.injEq, Array.mk.injEq, List.cons.injEq, Value.bool.injEq, Value.int.injEq, and_true, true_and] at h
    exact h.1.2.2.2.2.1.symm
theorem ref_read (c : Nat) (l : List Nat) (hl : ByL l) : ∃ (f0 : Bool) (f1 : Int) (f2 f3 : Bool) (f4 : Int) (f5 : Bool) (f6 f7 f8 : Int), rOut (lI l) = (#[.bool f0, .int .u8 f1, .bool f2, .bool f3, .int .u16 f4, .bool f5, .int .i64 f6], f7, f8) ∧ hasC c l = (decide (c = 1) && (f8 == 0) && f2) ∧ picC c l = (if hasC c l = true then f4 else 0) ∧ 0 ≤ picC c l ∧ picC c l ≤ 65535 := by
 obtain ⟨b0, n1, n6, pl, er, ho⟩ := vp_form (lI l)
 have hr := lI_by hl
 rw [vp_eq _ (getD_range hr)] at ho
 refine ⟨_, _, _, _, _, _, _, _, _, ho, ?_, ?_⟩
 ·unfold hasC
  by_cases hc : c = 1
  ·rw [if_pos hc]
   cases hv : vHas (lI l) with
   | false => simp
   | true =>
    rw [hv] at ho
    rw [has_ok ho]
    simp [hc]
  ·rw [if_neg hc]
   simp [hc]
 ·unfold picC hasC
  by_cases hc : c = 1
  ·rw [if_pos hc, if_pos hc]
   cases hv : vHas (lI l) with
   | false =>
    rw [hv] at ho
    rw [no_pic ho]
    simp
   | true =>
    rw [hv] at ho
    have := turn_back hr (by rw [ho]) 0
    simp
    exact ⟨this.2.1, this.2.2⟩
  ·rw [if_neg hc, if_neg hc]
   simp
end Go.Proofs.Ytojedpahaifjgaa
