/- What a pacer's Push and Out keep: plain laws. No condition. -/
import Derived.Test.YtgiajnfmjpdodaaPaF
namespace Go.Proofs.Ytgiajnfmjpdodaa
open Go.RowKit

def lensL (o : List (Int × List Nat)) : Nat := (o.map fun p => p.2.length).sum
theorem lensL_snoc (o : List (Int × List Nat)) (c : Int) (x : List Nat) : lensL (o ++ [(c, x)]) = lensL o + x.length := by
  unfold lensL
  rw [List.map_append, List.map_singleton, sum_snoc]
structure PcK (S R : PcS) : Prop where
  rate : R.rate = S.rate
  burst : R.burst = S.burst
  packets : R.packets = S.packets
  bytes : R.bytes = S.bytes
  ql : R.qs.length = 4
theorem PcK.trans {S R T : PcS} (h : PcK S R) (k : PcK R T) : PcK S T := ⟨k.rate.trans h.rate, k.burst.trans h.burst, k.packets.trans h.packets, k.bytes.trans h.bytes, k.ql⟩
structure OutL (S : PcS) (o : List (Int × List Nat)) (R : List (Int × List Nat) × PcS) : Prop where
  k : PcK S R.2
  gone : R.2.gone = S.gone
  hav : 0 ≤ R.2.hav
  sum : R.2.hav + lensL R.1 = S.hav + lensL o
  m : mny R.2.qs ≤ mny S.qs
  s : siz R.2.qs ≤ siz S.qs
theorem OutL.refl {S : PcS} (hq : S.qs.length = 4) (hh : 0 ≤ S.hav) (o : List (Int × List Nat)) : OutL S o (o, S) := ⟨⟨rfl, rfl, rfl, rfl, hq⟩, rfl, hh, rfl, Nat.le_refl _, Nat.le_refl _⟩
theorem outR_keeps : ∀ (f c : Nat) (S : PcS) (o : List (Int × List Nat)), S.qs.length = 4 → 0 ≤ S.hav → OutL S o (outR f c S o)
  | 0, _, _, o, hq, hh => OutL.refl hq hh o
  | f + 1, c, S, o, hq, hh => by
    unfold outR
    by_cases h4 : 4 ≤ c
    · rw [if_pos h4]; exact OutL.refl hq hh o
    rw [if_neg h4]
    cases hx : S.qs.getD c [] with
    | nil => exact outR_keeps f (c + 1) S o hq hh
    | cons x q =>
      dsimp only
      by_cases hl : S.hav < x.length
      · rw [if_pos hl]; exact OutL.refl hq hh o
      rw [if_neg hl]
      have h := outR_keeps f c { S with hav := S.hav - x.length, qs := S.qs.set c q } (o ++ [((c : Int), x)]) (by show (S.qs.set c q).length = 4; rw [List.length_set]; exact hq) (by show (0 : Int) ≤ S.hav - x.length; omega)
      have h1 := mny_set S.qs c q (by omega)
      have h2 := siz_set S.qs c q (by omega)
      rw [hx] at h1 h2
      rw [List.length_cons] at h1
      have h3 : lnS (x :: q) = x.length + lnS q := rfl
      have e1 := h.sum
      rw [lensL_snoc] at e1
      have e2 : mny (outR f c { S with hav := S.hav - x.length, qs := S.qs.set c q } (o ++ [((c : Int), x)])).2.qs ≤ mny (S.qs.set c q) := h.m
      have e3 : siz (outR f c { S with hav := S.hav - x.length, qs := S.qs.set c q } (o ++ [((c : Int), x)])).2.qs ≤ siz (S.qs.set c q) := h.s
      refine ⟨⟨h.k.rate, h.k.burst, h.k.packets, h.k.bytes, h.k.ql⟩, h.gone, h.hav, ?_, by omega, by omega⟩
      rw [e1]
      show S.hav - x.length + ((lensL o + x.length : Nat) : Int) = _
      omega
theorem outR_sorted : ∀ (f c : Nat) (S : PcS) (o : List (Int × List Nat)), o.Pairwise (fun a b => a.1 ≤ b.1) → (∀ p ∈ o, p.1 ≤ (c : Int)) → (outR f c S o).1.Pairwise (fun a b => a.1 ≤ b.1)
  | 0, _, _, _, h, _ => h
  | f + 1, c, S, o, h, hp => by
    unfold outR
    by_cases h4 : 4 ≤ c
    · rw [if_pos h4]; exact h
    rw [if_neg h4]
    cases hx : S.qs.getD c [] with
    | nil => exact outR_sorted f (c + 1) S o h (fun p hm => by have := hp p hm; omega)
    | cons x q =>
      dsimp only
      by_cases hl : S.hav < x.length
      · rw [if_pos hl]; exact h
      rw [if_neg hl]
      refine outR_sorted f c _ _ (List.pairwise_append.2 ⟨h, List.pairwise_singleton _ _, fun a ha b hb => ?_⟩) (fun p hm => ?_)
      · obtain rfl : b = ((c : Int), x) := by simpa using hb
        exact hp a ha
      · rcases List.mem_append.1 hm with hm | hm
        · exact hp p hm
        · obtain rfl : p = ((c : Int), x) := by simpa using hm
          exact Int.le_refl _
theorem outN_keeps (S : PcS) (hq : S.qs.length = 4) (hh : 0 ≤ S.hav) : OutL S [] (outN S) := outR_keeps _ 0 S [] hq hh
theorem outN_sorted (S : PcS) (k : Nat) (h : k + 1 < (outN S).1.length) : ((outN S).1[k]).1 ≤ ((outN S).1[k + 1]).1 :=
  List.pairwise_iff_getElem.1 (outR_sorted _ 0 S [] List.Pairwise.nil (fun p hm => by cases hm)) k (k + 1) (Nat.lt_of_succ_lt h) h (Nat.lt_succ_self k)

theorem dropsN_keeps (n c : Nat) (hc : c < 4) : ∀ (k : Nat) (S : PcS), k = mny S.qs → S.qs.length = 4 → roomB S (mny (S.qs.drop (c + 1))) (siz (S.qs.drop (c + 1))) n = true →
    PcK S (dropsN n k S) ∧ (dropsN n k S).hav = S.hav ∧ roomB (dropsN n k S) 0 0 n = true ∧ (dropsN n k S).gone + mny (dropsN n k S).qs = S.gone + mny S.qs
  | 0, S, hk, hq, hr => by
    refine ⟨⟨rfl, rfl, rfl, rfl, hq⟩, rfl, ?_, rfl⟩
    show roomB S 0 0 n = true
    cases h0 : roomB S 0 0 n with
    | true => rfl
    | false => have := room_more hr h0; have := mny_drop S.qs (c + 1); omega
  | k + 1, S, hk, hq, hr => by
    unfold dropsN
    cases h0 : roomB S 0 0 n with
    | true => rw [if_pos rfl]; exact ⟨⟨rfl, rfl, rfl, rfl, hq⟩, rfl, h0, rfl⟩
    | false =>
      rw [if_neg (by decide)]
      have hup := room_more hr h0
      obtain ⟨t1, t2, _⟩ := topC_spec hq (by omega)
      have t4 := topC_up hq c hc hup
      have hdm := dropS_mny hq t1 t2
      have hr2 : roomB (dropS S (topC S.qs)) (mny ((dropS S (topC S.qs)).qs.drop (c + 1))) (siz ((dropS S (topC S.qs)).qs.drop (c + 1))) n = true := by
        have := hr
        rw [roomB_up] at this ⊢
        rw [dropS_take (by omega)]
        exact this
      have hq2 : (dropS S (topC S.qs)).qs.length = 4 := by show (S.qs.set _ _).length = 4; rw [List.length_set]; exact hq
      have h := dropsN_keeps n c hc k (dropS S (topC S.qs)) (by omega) hq2 hr2
      refine ⟨PcK.trans (R := dropS S (topC S.qs)) ⟨rfl, rfl, rfl, rfl, hq2⟩ h.1, h.2.1, h.2.2.1, ?_⟩
      rw [h.2.2.2]
      show S.gone + 1 + _ = _
      omega
structure PushL (S R : PcS) : Prop where
  k : PcK S R
  hav : R.hav = S.hav
  m : (mny R.qs : Int) ≤ S.packets
  s : (siz R.qs : Int) ≤ S.bytes
  g : R.gone + mny R.qs ≤ S.gone + mny S.qs + 1
theorem pushN_keeps (S : PcS) (cls : Int) (b : List Nat) (hq : S.qs.length = 4) (hm : (mny S.qs : Int) ≤ S.packets) (hs : (siz S.qs : Int) ≤ S.bytes) : PushL S (pushN S cls b).2 := by
  have h0 : PushL S S := ⟨⟨rfl, rfl, rfl, rfl, hq⟩, rfl, hm, hs, by omega⟩
  unfold pushN
  split
  · exact h0
  rename_i h1
  split
  · exact h0
  split
  · exact h0
  rename_i h2
  have hc : cls.toNat < 4 := by omega
  have hr : roomB S (mny (S.qs.drop (cls.toNat + 1))) (siz (S.qs.drop (cls.toNat + 1))) b.length = true := by
    cases h : roomB S (mny (S.qs.drop (cls.toNat + 1))) (siz (S.qs.drop (cls.toNat + 1))) b.length with
    | true => rfl
    | false => exact absurd h h2
  obtain ⟨k1, k2, k3, k4⟩ := dropsN_keeps b.length cls.toNat hc (mny S.qs) S rfl hq hr
  dsimp only
  generalize dropsN b.length (mny S.qs) S = T at *
  have e := of_decide_eq_true k3
  have m1 := mny_set T.qs cls.toNat (T.qs.getD cls.toNat [] ++ [b]) (by rw [k1.ql]; exact hc)
  have s1 := siz_set T.qs cls.toNat (T.qs.getD cls.toNat [] ++ [b]) (by rw [k1.ql]; exact hc)
  have s2 : lnS (T.qs.getD cls.toNat [] ++ [b]) = lnS (T.qs.getD cls.toNat []) + b.length := by unfold lnS; rw [List.map_append, List.map_singleton, sum_snoc]
  rw [List.length_append, List.length_singleton] at m1
  rw [s2] at s1
  have p1 := k1.packets
  have p2 := k1.bytes
  refine ⟨⟨k1.rate, k1.burst, k1.packets, k1.bytes, by show (T.qs.set _ _).length = 4; rw [List.length_set]; exact k1.ql⟩, k2, ?_, ?_, ?_⟩
  · show (mny (T.qs.set cls.toNat (T.qs.getD cls.toNat [] ++ [b])) : Int) ≤ _
    omega
  · show (siz (T.qs.set cls.toNat (T.qs.getD cls.toNat [] ++ [b])) : Int) ≤ _
    omega
  · show T.gone + mny (T.qs.set cls.toNat (T.qs.getD cls.toNat [] ++ [b])) ≤ _
    omega
end Go.Proofs.Ytgiajnfmjpdodaa
