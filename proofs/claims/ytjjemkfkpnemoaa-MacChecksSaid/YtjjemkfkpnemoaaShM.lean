/- sha's mix. No condition. -/
import Derived.Test.YtjjemkfkpnemoaaShW
namespace Go.Proofs.Ytjjemkfkpnemoaa
open Go.RowKit

theorem not_nat (b : Nat) (hb : b < 4294967296) : bits .xor .u32 4294967295 (b : Int) = ((4294967295 - b : Nat) : Int) := by
  rw [show (4294967295 : Int) = ((4294967295 : Nat) : Int) from rfl, u32_xor_nat _ _ (by decide) hb]
  congr 1
  have h := congrArg BitVec.toNat (BitVec.allOnes_xor (x := BitVec.ofNat 32 b))
  rw [BitVec.toNat_xor, BitVec.toNat_not, BitVec.toNat_allOnes, BitVec.toNat_ofNat, Nat.mod_eq_of_lt (by omega)] at h
  exact h

theorem fmix_lt (t b c d : Nat) (hb : b < 4294967296) (hc : c < 4294967296) (hd : d < 4294967296) : fmix t b c d < 4294967296 := by
  have h1 : ∀ x y : Nat, x < 4294967296 → x &&& y < 4294967296 := fun x y h => Nat.lt_of_le_of_lt Nat.and_le_left h
  have hx : b ^^^ c ^^^ d < 4294967296 := Nat.xor_lt_two_pow (n := 32) (Nat.xor_lt_two_pow (n := 32) hb hc) hd
  unfold fmix
  split
  · exact Nat.or_lt_two_pow (n := 32) (h1 _ _ hb) (h1 _ _ (by omega))
  · split
    · exact hx
    · split
      · exact Nat.or_lt_two_pow (n := 32) (Nat.or_lt_two_pow (n := 32) (h1 _ _ hb) (h1 _ _ hb)) (h1 _ _ hc)
      · exact hx
theorem kmix_lt (t : Nat) : kmix t < 4294967296 := by unfold kmix; split; decide; split; decide; split <;> decide

set_option maxRecDepth 100000 in
set_option maxHeartbeats 4000000 in
theorem mix_two (t b c d : Nat) (ht : t < 80) (hb : b < 4294967296) (hc : c < 4294967296) (hd : d < 4294967296) (w : World) :
    Calls Try.prog 77 #[.int .i64 (t : Nat), .int .u32 (b : Nat), .int .u32 (c : Nat), .int .u32 (d : Nat)] w fun e w' => e = .returned (.tuple #[.int .u32 (fmix t b c d : Nat), .int .u32 (kmix t : Nat)]) ∧ w = w' := by
  have h1 : ∀ x y : Nat, x < 4294967296 → x &&& y < 4294967296 := fun x y h => Nat.lt_of_le_of_lt Nat.and_le_left h
  have e1 := u32_and_nat b c hb hc
  have e2 := not_nat b hb
  have e3 := u32_and_nat (4294967295 - b) d (by omega) hd
  have e4 := u32_or_nat (b &&& c) ((4294967295 - b) &&& d) (h1 _ _ hb) (h1 _ _ (by omega))
  have e5 := u32_xor_nat b c hb hc
  have e6 := u32_xor_nat (b ^^^ c) d (Nat.xor_lt_two_pow (n := 32) hb hc) hd
  have e7 := u32_and_nat b d hb hd
  have e8 := u32_and_nat c d hc hd
  have e9 := u32_or_nat (b &&& c) (b &&& d) (h1 _ _ hb) (h1 _ _ hb)
  have e10 := u32_or_nat ((b &&& c) ||| (b &&& d)) (c &&& d) (Nat.or_lt_two_pow (n := 32) (h1 _ _ hb) (h1 _ _ hb)) (h1 _ _ hc)
  have hf : Hid (fmix t b c d = if t < 20 then (b &&& c) ||| ((4294967295 - b) &&& d) else if t < 40 then b ^^^ c ^^^ d else if t < 60 then (b &&& c) ||| (b &&& d) ||| (c &&& d) else b ^^^ c ^^^ d) := rfl
  have hk : Hid (kmix t = if t < 20 then 1518500249 else if t < 40 then 1859775393 else if t < 60 then 2400959708 else 3395469782) := rfl
  have hsg : IntKind.u32.signed = false := rfl
  have hmx : IntKind.u32.max = 4294967295 := rfl
  clear hb hc hd h1
  generalize fmix t b c d = F at *
  generalize kmix t = K0 at *
  generalize 4294967295 - b = nb at *
  generalize b &&& c = bc at *
  generalize nb &&& d = nd at *
  generalize b ^^^ c = bxc at *
  generalize b &&& d = bd at *
  generalize c &&& d = cd at *
  by_cases t1 : t < 20
  · have q := hf.out
    have q' := hk.out
    rw [if_pos t1] at q q'
    replace q := Lib.hid q
    replace q' := Lib.hid q'
    go_enter Try.func77, Try.ntmps77
    go_wp2_with fail
    go_ret2
    exact ⟨by rw [q.out, q'.out]; rfl, rfl⟩
  · by_cases t2 : t < 40
    · have q := hf.out
      have q' := hk.out
      rw [if_neg t1, if_pos t2] at q q'
      replace q := Lib.hid q
      replace q' := Lib.hid q'
      go_enter Try.func77, Try.ntmps77
      go_wp2_with fail
      go_ret2
      exact ⟨by rw [q.out, q'.out]; rfl, rfl⟩
    · by_cases t3 : t < 60
      · have q := hf.out
        have q' := hk.out
        rw [if_neg t1, if_neg t2, if_pos t3] at q q'
        replace q := Lib.hid q
        replace q' := Lib.hid q'
        go_enter Try.func77, Try.ntmps77
        go_wp2_with fail
        go_ret2
        exact ⟨by rw [q.out, q'.out]; rfl, rfl⟩
      · have q := hf.out
        have q' := hk.out
        rw [if_neg t1, if_neg t2, if_neg t3] at q q'
        replace q := Lib.hid q
        replace q' := Lib.hid q'
        go_enter Try.func77, Try.ntmps77
        go_wp2_with fail
        go_ret2
        exact ⟨by rw [q.out, q'.out]; rfl, rfl⟩
end Go.Proofs.Ytjjemkfkpnemoaa
