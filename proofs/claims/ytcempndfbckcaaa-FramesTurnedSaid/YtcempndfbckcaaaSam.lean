/- octets.Same; a string of bytes. No condition. -/
import Derived.Test.YtcempndfbckcaaaBst
import Derived.Test.YtcempndfbckcaaaPre
import Derived.Test.YtcempndfbckcaaaGKi
import Derived.Laws.BytesArg
namespace Go.Proofs.Ytcempndfbckcaaa
open Go.RowKit

/-- The bits that differ in the first k bytes. -/
def dif (a b : List Nat) : Nat → Nat
  | 0 => 0
  | k + 1 => dif a b k ||| (a.getD k 0 ^^^ b.getD k 0)
theorem dif_lt (a b : List Nat) (ha : ByL a) (hb : ByL b) : ∀ k, dif a b k < 256
  | 0 => (by decide : 0 < 256)
  | k + 1 => Nat.or_lt_two_pow (n := 8) (dif_lt a b ha hb k) (Nat.xor_lt_two_pow (n := 8) (ha.get k) (hb.get k))
theorem dif_zero (a b : List Nat) : ∀ k, dif a b k = 0 ↔ ∀ i, i < k → a.getD i 0 = b.getD i 0
  | 0 => by simp [dif]
  | k + 1 => by
    have hx : ∀ x y : Nat, x ^^^ y = 0 ↔ x = y := fun x y => by
      constructor
      · intro h
        have := congrArg (fun z => z ^^^ y) h
        simpa [Nat.xor_assoc] using this
      · rintro rfl; simp
    rw [dif, Nat.or_eq_zero_iff, dif_zero a b k, hx]
    constructor
    · intro ⟨h1, h2⟩ i hi
      rcases Nat.lt_or_ge i k with h | h
      · exact h1 i h
      · obtain rfl : i = k := by omega
        exact h2
    · intro h; exact ⟨fun i hi => h i (by omega), h k (by omega)⟩
theorem dif_eq (a b : List Nat) (n : Nat) (ha : a.length = n) (hb : b.length = n) : dif a b n = 0 ↔ a = b := by
  rw [dif_zero]
  constructor
  · intro h
    refine List.ext_getElem (by omega) fun i h1 h2 => ?_
    have := h i (by omega)
    simpa [List.getD_eq_getElem?_getD, List.getElem?_eq_getElem h1, List.getElem?_eq_getElem h2] using this
  · rintro rfl; exact fun _ _ => rfl

set_option maxRecDepth 100000 in
set_option maxHeartbeats 8000000 in
theorem same_ok (va vb : Value) (na nb : Nat) (a b : List Nat) (w : World) (ha : SB w va na a) (hb : SB w vb nb b) :
    Calls Try.prog 101 #[va, vb] w fun e w' => e = .returned (.bool (decide (a = b))) ∧ Below w.heap.size w w' := by
  obtain ⟨sa, ca, rfl, _, _⟩ := ha.len
  obtain ⟨sb, cb, rfl, _, _⟩ := hb.len
  obtain ⟨la1, la2, la3, la4⟩ := ha.unpack
  obtain ⟨lb1, lb2, lb3, lb4⟩ := hb.unpack
  replace ha := Lib.hid ha
  replace hb := Lib.hid hb
  replace la3 := Lib.hid la3
  replace lb3 := Lib.hid lb3
  replace la4 := Lib.hid la4
  replace lb4 := Lib.hid lb4
  by_cases hn : na = nb
  · subst hn
    have hne : ((na : Int) != na) = false := by simp
    have h0 : (((dif a b na : Nat) : Int) == 0) = decide (a = b) := by
      rw [Bool.eq_iff_iff]
      simp only [beq_iff_eq, decide_eq_true_eq]
      rw [← dif_eq a b na la3.out lb3.out]; omega
    generalize decide (a = b) = q at *
    replace h0 := Lib.hid h0
    go_enter Try.func101, Try.ntmps101
    go_wp2_with fail
    go_loopg [5, 14] na (fun m' d i wx => ∃ k : Nat, m' = na - k ∧ k ≤ na ∧ i = .int .i64 k ∧ d = .int .u8 (dif a b k : Nat) ∧ Hid (BW w wx))
    case atStart => exact ⟨0, by omega, by omega, rfl, rfl, BW.refl _⟩
    case round =>
      obtain ⟨k, rfl, hk, rfl, rfl, B⟩ := hrel
      by_cases hkn : k < na
      · obtain ⟨b1, o1, c1, he, _, _, _, hc1⟩ := (ha.out.bw B.out).form (by omega)
        cases he
        obtain ⟨b2, o2, c2, he, _, _, _, hc2⟩ := (hb.out.bw B.out).form (by omega)
        cases he
        have d1 := hc1 k hkn
        have d2 := hc2 k hkn
        have hs : dif a b (k + 1) = dif a b k ||| (a.getD k 0 ^^^ b.getD k 0) := rfl
        have hz := dif_lt a b la4.out lb4.out k
        have hx := la4.out.get k
        have hy := lb4.out.get k
        generalize a.getD k 0 = x at *
        generalize b.getD k 0 = y at *
        generalize dif a b k = z at *
        have e1 := u8_xor_nat x y hx hy
        have e2 := u8_or_nat z (x ^^^ y) hz (Nat.xor_lt_two_pow (n := 8) hx hy)
        clear hc1 hc2 ha hb
        replace hs := Lib.hid hs
        have q1 : (0 : Int) ≤ (k : Int) := by omega
        have q2 : (k : Int) < (na : Int) := by omega
        go_wp2
        go_quiet (fail)
        have B2 := Lib.hid (B.out.drewN (k := nq))
        go_wp2
        go_roundg (na - (k + 1))
        case measure => omega
        case rel => exact ⟨k + 1, rfl, by omega, by go_num, by rw [hs.out], B2⟩
      · obtain rfl : k = na := by omega
        replace h0 := h0.out
        generalize dif a b k = z at *
        go_wp2
        go_ret
        exact ⟨rfl, B.out⟩
  · have hab : decide (a = b) = false := by
      rw [decide_eq_false_iff_not]
      rintro rfl
      exact hn (la3.out.symm.trans lb3.out)
    have hne : ((na : Int) != nb) = true := by rw [bne_iff_ne]; omega
    rw [hab]
    clear hab
    go_enter Try.func101, Try.ntmps101
    go_wp2_with fail
    go_ret
    exact ⟨rfl, BW.refl _⟩
end Go.Proofs.Ytcempndfbckcaaa
