/- Covers of packets: the mask. No condition but the sizes'. -/
import Derived.Test.YtgiajnfmjpdodaaFeC
namespace Go.Proofs.Ytgiajnfmjpdodaa
open Go.RowKit

theorem ofInt_16 (a : Nat) (ha : a < 65536) : (BitVec.ofInt 16 (a : Int)).toNat = a := by
  rw [BitVec.toNat_ofInt]
  omega
theorem u16_and_nat (a b : Nat) (ha : a < 65536) (hb : b < 65536) : bits .and .u16 (a : Int) (b : Int) = ((a &&& b : Nat) : Int) := by
  have hx : a &&& b < 2 ^ 16 := Nat.and_lt_two_pow _ (by omega)
  show IntKind.u16.wrap ((BitVec.ofInt 16 (a : Int) &&& BitVec.ofInt 16 (b : Int)).toNat : Int) = _
  rw [BitVec.toNat_and, ofInt_16 a ha, ofInt_16 b hb]
  exact IntWalk.u16_in _ (by omega)
theorem u16_or_nat (a b : Nat) (ha : a < 65536) (hb : b < 65536) : bits .or .u16 (a : Int) (b : Int) = ((a ||| b : Nat) : Int) := by
  have hx : a ||| b < 2 ^ 16 := Nat.or_lt_two_pow (by omega) (by omega)
  show IntKind.u16.wrap ((BitVec.ofInt 16 (a : Int) ||| BitVec.ofInt 16 (b : Int)).toNat : Int) = _
  rw [BitVec.toNat_or, ofInt_16 a ha, ofInt_16 b hb]
  exact IntWalk.u16_in _ (by omega)
theorem pow16 {e : Nat} (he : e < 16) : 2 ^ e < 65536 := by
  have : 2 ^ e ≤ 2 ^ 15 := Nat.pow_le_pow_right (by omega) (by omega)
  omega
theorem or16 {m e : Nat} (hm : m < 65536) (he : e < 16) : m ||| 2 ^ e < 65536 := by
  have h := pow16 he
  exact Nat.or_lt_two_pow (n := 16) (by omega) (by omega)
theorem and_pow_bit (m e : Nat) : m &&& 2 ^ e = if m.testBit e = true then 2 ^ e else 0 := by
  apply Nat.eq_of_testBit_eq
  intro i
  rw [Nat.testBit_and, Nat.testBit_two_pow]
  by_cases h : e = i
  · subst h
    cases m.testBit e <;> simp
  · rw [decide_eq_false h, Bool.and_false]
    split
    · rw [Nat.testBit_two_pow, decide_eq_false h]
    · rw [Nat.zero_testBit]
def maskN (f : Nat) : List Nat → Nat → Option Nat
  | [], m => some m
  | t :: L, m => if m.testBit (dst f t) = true then none else maskN f L (m ||| 2 ^ dst f t)
set_option maxRecDepth 100000 in
set_option maxHeartbeats 8000000 in
theorem mask_any (base f : Nat) (v : Value) (n : Nat) (L : List Nat) (w : World) (h : EQ I16 24 w base v n L) (hn : n ≤ 1000000) (hL : ∀ x ∈ L, x < 65536) (hf : f < 65536) (hd : ∀ x ∈ L, dst f x < 16) :
    Calls Try.prog 75 #[.int .u16 (f : Nat), v] w fun e w' => e = .returned (.tuple #[.int .u16 ((maskN f L 0).getD 0 : Nat), .bool (maskN f L 0).isSome]) ∧ w = w' := by
  obtain ⟨sa, cap, rfl, hnc, hcm⟩ := h.len
  unfold maxLen at hcm
  have hQ := Lib.hid h
  have hdl := Lib.hid h.1
  clear h
  have hA : maskN f L 0 = maskN f (L.drop 0) 0 := by rw [List.drop_zero]
  generalize maskN f L 0 = R at *
  replace hL := Lib.hid hL
  replace hA := Lib.hid hA
  replace hd := Lib.hid hd
  go_enter Try.func75, Try.ntmps75
  go_upto_region 3 with (fail)
  go_loopg [6, 12] n (fun m' s i wx => ∃ k m : Nat, m' = n - k ∧ k ≤ n ∧ s = .int .u16 (m : Nat) ∧ m < 65536 ∧ i = .int .i64 (k : Nat) ∧ Hid (R = maskN f (L.drop k) m) ∧ w = wx)
  case atStart => exact ⟨0, 0, by omega, by omega, rfl, by omega, rfl, hA, rfl⟩
  case round =>
    clear hA
    obtain ⟨k, m, rfl, hk, rfl, hm, rfl, hA, rfl⟩ := hrel
    by_cases hkn : k < n
    · have d : decide ((k : Int) < (n : Int)) = true := by simp; omega
      have hkL : k < L.length := by rw [hdl.out]; exact hkn
      obtain ⟨g, o, rfl, hc⟩ := i16_form hQ.out (by omega)
      have z := hc k hkL
      have hA2 := hA.out
      rw [List.drop_eq_getElem_cons hkL] at hA2
      unfold maskN at hA2
      have ht := hL.out _ (List.getElem_mem hkL)
      have hdd := hd.out _ (List.getElem_mem hkL)
      clear hc
      generalize L[k] = t at *
      have q1 := wrap_dst hf ht
      generalize dst f t = e at *
      have hp := pow16 hdd
      have q2 : IntKind.u16.wrap ((2 : Int) ^ e) = ((2 ^ e : Nat) : Int) := by
        rw [show (2 : Int) ^ e = ((2 ^ e : Nat) : Int) by push_cast; rfl]
        generalize 2 ^ e = p at hp ⊢
        exact IntWalk.u16_in _ (by omega)
      have a1 := u16_and_nat m (2 ^ e) hm hp
      have a2 := u16_or_nat m (2 ^ e) hm hp
      have d2 : (((m &&& 2 ^ e : Nat) : Int) != 0) = m.testBit e := by
        rw [and_pow_bit]
        have hp1 := Nat.two_pow_pos e
        generalize 2 ^ e = p at hp hp1 ⊢
        cases m.testBit e with
        | true =>
          rw [if_pos rfl]
          exact bne_iff_ne.2 (by omega)
        | false => rfl
      have ho := or16 hm hdd
      have q3 : (0 : Int) ≤ (e : Int) := by omega
      generalize hpe : 2 ^ e = p at *
      generalize m &&& p = x at *
      generalize hor : m ||| p = y at *
      replace hpe := Lib.hid hpe
      replace hor := Lib.hid hor
      cases hb : m.testBit e with
      | true =>
        rw [hb] at d2
        rw [hb, if_pos rfl] at hA2
        replace hA2 := Lib.hid hA2
        replace hb := Lib.hid hb
        go_wp2_with fail
        go_ret2
        rw [hA2.out]
        exact ⟨rfl, rfl⟩
      | false =>
        rw [hb] at d2
        rw [hb, if_neg (by decide)] at hA2
        replace hA2 := Lib.hid hA2
        replace hb := Lib.hid hb
        go_wp2_with fail
        clear q1 q2 a1 a2 d2 z d
        go_roundg (n - (k + 1))
        case measure => omega
        case rel => exact ⟨k + 1, y, rfl, by omega, rfl, ho, by push_cast; rfl, hA2, rfl⟩
    · obtain rfl : k = n := by omega
      have d : decide ((k : Int) < (k : Int)) = false := by simp
      have hR : R = some m := by rw [hA.out, List.drop_of_length_le (by rw [hdl.out]; exact Nat.le_refl _)]; rfl
      replace hR := Lib.hid hR
      go_wp2_with fail
      go_ret2
      rw [hR.out]
      exact ⟨rfl, rfl⟩
end Go.Proofs.Ytgiajnfmjpdodaa
