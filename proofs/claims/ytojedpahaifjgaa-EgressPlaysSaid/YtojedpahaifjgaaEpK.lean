/- Both writers of an egress tell the same: plain laws. No condition but the numbers' bounds. -/
import Derived.Test.YtojedpahaifjgaaGEo
import Derived.Test.YtojedpahaifjgaaGEf
namespace Go.Proofs.Ytojedpahaifjgaa
open Go.RowKit
theorem eofInt_16 (a : Nat) (ha : a < 65536) : (BitVec.ofInt 16 (a : Int)).toNat = a := by
 rw [BitVec.toNat_ofInt]
 omega
theorem e16_and (a b : Nat) (ha : a < 65536) (hb : b < 65536) : bits .and .u16 (a : Int) (b : Int) = ((a &&& b : Nat) : Int) := by
 have hx : a &&& b < 2 ^ 16 := Nat.and_lt_two_pow _ (by omega)
 show IntKind.u16.wrap ((BitVec.ofInt 16 (a : Int) &&& BitVec.ofInt 16 (b : Int)).toNat : Int) = _
 rw [BitVec.toNat_and, eofInt_16 a ha, eofInt_16 b hb]
 exact IntWalk.u16_in _ (by omega)
theorem wr16 (x : Int) : IntKind.u16.wrap x = x % 65536 := by simp [IntKind.wrap, IntKind.bits, IntKind.signed]
theorem low15w (x : Int) : bits .and .u16 (IntKind.u16.wrap x) 32767 = x % 32768 := by
 have e : IntKind.u16.wrap x = x % 65536 := wr16 x
 rw [e]
 obtain ⟨n, hn⟩ : ∃ n : Nat, x % 65536 = (n : Int) := ⟨(x % 65536).toNat, by omega⟩
 have h := e16_and n 32767 (by omega) (by decide)
 rw [show 32767 = 2 ^ 15 - 1 from rfl, Nat.and_two_pow_sub_one_eq_mod] at h
 rw [hn]
 refine h.trans ?_
 rw [Int.natCast_emod, ← hn]
 have e3 : ((2 ^ 15 : Nat) : Int) = 32768 := by decide
 rw [e3]
 omega
theorem mpP_eq (b2 p a2 : Int) : mpP b2 p a2 = (b2 + p - a2) % 32768 := by
 unfold mpP
 rw [low15w, wr16]
 omega
def mapM (a b x : Mpd) : Mpd := (b.1 + (x.1 - a.1), (b.2.1 + (x.2.1 - a.2.1)) % 4294967296, (b.2.2 + x.2.2 - a.2.2) % 32768)
structure WrR (W : Wr) (fol : Bool) (a b : Mpd) (L : List Mpd) (K : Int) : Prop where
 f : W.fol = fol
 a : a = (W.a0, W.a1, W.a2)
 b : b = (W.b0, W.b1, W.b2)
 no : W.out = false → L = []
 yes : W.out = true → ∃ k, topR L L.length = some k ∧ L.getD k (0, 0, 0) = (W.l0, W.l1, W.l2)
 pa : 0 ≤ W.a2 ∧ W.a2 ≤ 65535
 pb : 0 ≤ W.b2 ∧ W.b2 ≤ 65535
 bd : ∀ k, k < L.length → 0 ≤ mi L k ∧ mi L k ≤ K
theorem WrR.zero (K : Int) : WrR Wr.zero false (0, 0, 0) (0, 0, 0) [] K := ⟨rfl, rfl, rfl, fun _ => rfl, (fun h => by cases h), by decide, by decide, fun k hk => absurd hk (Nat.not_lt_zero _)⟩
theorem WrR.up {W : Wr} {fol : Bool} {a b : Mpd} {L : List Mpd} {K K' : Int} (h : WrR W fol a b L K) (hK : K ≤ K') : WrR W fol a b L K' := ⟨h.f, h.a, h.b, h.no, h.yes, h.pa, h.pb, fun k hk => ⟨(h.bd k hk).1, Int.le_trans (h.bd k hk).2 hK⟩⟩
theorem u16_mod (x : Int) : (IntKind.u16.wrap x).tmod 32768 = x % 32768 := by
 rw [wr16, Int.tmod_eq_emod_of_nonneg (by omega)]
 omega
theorem WrR.here {W : Wr} {fol : Bool} {a b : Mpd} {L : List Mpd} {K : Int} (h : WrR W fol a b L K) (first : Int) : hereN first L = (if W.out = true then W.l0 + 1 else first, nxS W.out W.l1, nxP W.out W.l2) := by
 unfold hereN nxS nxP
 cases ho : W.out with
 | false =>
  have := h.no ho
  subst this
  rfl
 | true =>
  obtain ⟨k, h1, h2⟩ := h.yes ho
  rw [h1]
  dsimp only
  rw [h2]
  unfold nxM
  simp only [if_true]
  rw [low15w, u16_mod]
theorem WrR.high {W : Wr} {fol : Bool} {a b : Mpd} {L : List Mpd} {K : Int} (h : WrR W fol a b L K) : hiN L = if W.out = true then W.l0 else -1 := by
 unfold hiN
 cases ho : W.out with
 | false =>
  have := h.no ho
  subst this
  rfl
 | true =>
  obtain ⟨k, h1, h2⟩ := h.yes ho
  rw [h1]
  dsimp only
  unfold mi
  rw [h2]
  rfl
theorem nxP_range (out : Bool) (l2 : Int) : 0 ≤ nxP out l2 ∧ nxP out l2 ≤ 65535 := by
 unfold nxP
 split
 ·rw [low15w]; omega
 ·decide
theorem WrR.follow {W : Wr} {fol : Bool} {a b : Mpd} {L : List Mpd} {K : Int} (h : WrR W fol a b L K) (first i s p : Int) (hi : 0 ≤ i) (hp : 0 ≤ p ∧ p ≤ 65535) : WrR (W.follow first i s p) true (i, s, p) (hereN first L) L K := by
 unfold Wr.follow
 rw [if_pos hi, h.here]
 exact ⟨rfl, rfl, rfl, h.no, h.yes, hp, nxP_range .., h.bd⟩
theorem follow_neg' {W : Wr} {first i s p : Int} (hi : i < 0) : W.follow first i s p = W := by
 unfold Wr.follow
 rw [if_neg (by omega)]
theorem WrR.refuse {W : Wr} {fol : Bool} {a b : Mpd} {L : List Mpd} {K : Int} (h : WrR W fol a b L K) (i s p : Int) (hn : fol = false ∨ i < 0 ∨ i < a.1) : W.map i s p = (none, W) := by
 have hn' : W.fol = false ∨ i < 0 ∨ i < W.a0 := by
  rw [h.f]
  have e : a.1 = W.a0 := by rw [h.a]
  rw [← e]
  exact hn
 unfold Wr.map mapN
 rw [if_pos hn']
theorem getD_app_lt {L : List Mpd} {y : Mpd} {k : Nat} (h : k < L.length) : (L ++ [y]).getD k (0, 0, 0) = L.getD k (0, 0, 0) := by
 unfold List.getD
 rw [List.getElem?_append_left h]
theorem getD_app_eq (L : List Mpd) (y : Mpd) : (L ++ [y]).getD L.length (0, 0, 0) = y := by
 unfold List.getD
 rw [List.getElem?_append_right (Nat.le_refl _)]
 simp
theorem WrR.map {W : Wr} {a b : Mpd} {L : List Mpd} {K : Int} (h : WrR W true a b L K) (i s p : Int) (hi : 0 ≤ i) (ha : a.1 ≤ i) (hb : 0 ≤ b.1) (hl : W.out = false → W.l0 = 0) (hK : b.1 + (i - a.1) ≤ K) :
  ∃ W', W.map i s p = (some (mapM a b (i, s, p)), W') ∧ WrR W' true a b (L ++ [mapM a b (i, s, p)]) K := by
 have e1 : a = (W.a0, W.a1, W.a2) := h.a
 have e2 : b = (W.b0, W.b1, W.b2) := h.b
 have hn' : ¬ (W.fol = false ∨ i < 0 ∨ i < W.a0) := by
  rw [e1] at ha
  rintro (h' | h' | h')
  ·rw [h.f] at h'; cases h'
  ·omega
  ·dsimp only at ha; omega
 obtain ⟨y0, y1, y2, e3⟩ : ∃ y0 y1 y2, mapM a b (i, s, p) = (y0, y1, y2) := ⟨_, _, _, rfl⟩
 have f0 : W.b0 + i - W.a0 = y0 := by
  have := congrArg Prod.fst e3
  unfold mapM at this
  rw [e1, e2] at this
  dsimp only at this
  omega
 have f1 : mpS W.b1 s W.a1 = y1 := by
  have := congrArg (fun x => x.2.1) e3
  unfold mapM at this
  rw [e1, e2] at this
  dsimp only at this
  unfold mpS
  omega
 have f2 : mpP W.b2 p W.a2 = y2 := by
  have := congrArg (fun x => x.2.2) e3
  unfold mapM at this
  rw [e1, e2] at this
  dsimp only at this
  rw [mpP_eq]
  exact this
 have g0 : 0 ≤ y0 ∧ y0 ≤ K := by
  rw [e1, e2] at hK
  rw [e1] at ha
  rw [e2] at hb
  dsimp only at hK ha hb
  omega
 have hbd : ∀ k, k < (L ++ [(y0, y1, y2)]).length → 0 ≤ mi (L ++ [(y0, y1, y2)]) k ∧ mi (L ++ [(y0, y1, y2)]) k ≤ K := by
  intro k hk
  rw [List.length_append, List.length_singleton] at hk
  by_cases hkl : k < L.length
  ·rw [mi_app hkl]; exact h.bd k hkl
  ·obtain rfl : k = L.length := by omega
   unfold mi
   rw [getD_app_eq]
   exact g0
 have hself : mi (L ++ [(y0, y1, y2)]) L.length = y0 := by unfold mi; rw [getD_app_eq]
 rw [e3]
 unfold Wr.map mapN
 rw [if_neg hn', f0, f1, f2]
 by_cases hc : W.l0 ≤ y0
 ·rw [if_pos hc]
  refine ⟨_, rfl, h.f, h.a, h.b, (fun e => by cases e), fun _ => ⟨L.length, ?_, getD_app_eq _ _⟩, h.pa, h.pb, hbd⟩
  rw [List.length_append, List.length_singleton, topR_succ, topR_app _ _ _ (Nat.le_refl _)]
  cases ho : W.out with
  | false =>
   have := h.no ho
   subst this
   rfl
  | true =>
   obtain ⟨k, h1, h2⟩ := h.yes ho
   have hkl := topR_spec L L.length
   rw [h1] at hkl ⊢
   dsimp only at hkl ⊢
   rw [mi_app hkl, hself]
   unfold mi
   rw [h2]
   exact if_pos hc
 ·rw [if_neg hc]
  refine ⟨_, rfl, h.f, h.a, h.b, (fun e => ?_), fun ho => ?_, h.pa, h.pb, hbd⟩
  ·exfalso
   have := hl e
   omega
  ·obtain ⟨k, h1, h2⟩ := h.yes ho
   have hkl := topR_spec L L.length
   rw [h1] at hkl
   dsimp only at hkl
   refine ⟨k, ?_, by rw [getD_app_lt hkl]; exact h2⟩
   rw [List.length_append, List.length_singleton, topR_succ, topR_app _ _ _ (Nat.le_refl _), h1]
   dsimp only
   rw [mi_app hkl, hself]
   unfold mi
   rw [h2]
   exact if_neg hc
theorem okQ_push {W : Wr} {k : Nat} {first : Int} (h : W.OkK (k + 1)) (hf : 0 ≤ first ∧ first ≤ 1099511627776) {many wanted goes ly : Int} {key : Bool} {i s p : Int} (hi : i ≤ 1099511627776) {r : Option (Int × Int × Int)} {tu : Bool} {gl : Int} {WN : Wr} (hN : pushN many wanted goes ly key first W i s p = (r, tu, gl, WN)) : WN.OkK (k + 1 + 1) := by
 obtain ⟨h1, h2, h3, h4⟩ := h
 unfold pushN at hN
 split at hN
 ·simp only [Prod.mk.injEq] at hN
  obtain ⟨-, -, -, rfl⟩ := hN
  exact okK_up ⟨h1, h2, h3, h4⟩
 ·simp only [Prod.mk.injEq] at hN
  obtain ⟨-, -, -, rfl⟩ := hN
  split
  ·unfold Wr.follow
   split
   ·refine okK_map ?_ ?_ ?_ ?_ i s p hi
    ·exact fun _ => ‹_›
    rotate_left
    ·exact h3
    ·exact h4
    show 0 ≤ (if W.out = true then W.l0 + 1 else first) ∧ (if W.out = true then W.l0 + 1 else first) ≤ _
    split <;> push_cast at * <;> omega
   ·exact okK_map h1 ⟨h2.1, by omega⟩ h3 h4 i s p hi
  ·exact okK_map h1 ⟨h2.1, by omega⟩ h3 h4 i s p hi
theorem okQ_ok {W : Wr} {k : Nat} {first : Int} (h : W.OkK (k + 1)) (hf : 0 ≤ first ∧ first ≤ 1099511627776) (hk : k ≤ 40) : W.Ok first := by
 obtain ⟨h1, h2, h3, h4⟩ := h
 exact ⟨h1, ⟨h2.1, by push_cast at h2; omega⟩, ⟨h3.1, by push_cast at h3; omega⟩, h4, by omega⟩
end Go.Proofs.Ytojedpahaifjgaa
