/- octets.Num and octets.Put. No condition but the sizes'. -/
import Derived.Test.YtojedpahaifjgaaPre
namespace Go.Proofs.Ytojedpahaifjgaa
open Go.RowKit
theorem or_byte (x c : Nat) (hc : c < 256) : (x * 256) ||| c = x * 256 + c := by
 have := Nat.two_pow_add_eq_or_of_lt (i := 8) (b := c) hc x
 rw [Nat.mul_comm x 256]
 exact this.symm
set_option maxRecDepth 100000 in
set_option maxHeartbeats 2000000 in
theorem num_ok (v : Value) (len : Nat) (l : List Nat) (at_ n : Nat) (a b : Int) (hn1 : 1 ≤ n) (hn8 : n ≤ 8) (hat : at_ + n ≤ len) (ha : a = at_) (hb : b = n) (w : World) (hv : SB w v len l) :
  Calls Try.prog 104 #[v, .int .i64 a, .int .i64 b] w fun e w' => e = .returned (.tuple #[.int .u64 (numB ((l.drop at_).take n) : Nat), .bool true]) ∧ w = w' := by
 subst ha
 subst hb
 obtain ⟨g, o, cap, rfl, hc, hm, hg, hcell⟩ := hv.form (by omega)
 have hby := Lib.hid hv.2.1
 have hll := Lib.hid hv.1
 unfold maxLen at hm
 replace hcell := Lib.hid hcell
 clear hv
 go_enter Try.func104, Try.ntmps104
 go_wp2_with fail
 go_loop [8, 42] (fun x i => ∃ k : Nat, k ≤ n ∧ i = .int .i64 (k : Nat) ∧ x = .int .u64 (numB ((l.drop at_).take k) : Nat)) (fun _ i => (n - intOf i).toNat)
 case atStart => exact ⟨0, by omega, rfl, rfl⟩
 case round =>
  obtain ⟨k, hk, rfl, rfl⟩ := hrel
  by_cases hkn : k < n
  ·have hc1 := hcell.out (at_ + k) (by omega)
   rw [← Nat.add_assoc] at hc1
   have hlt : numB ((l.drop at_).take k) < 72057594037927936 := by
    have h1 := numB_lt ((l.drop at_).take k) (fun x hx => hby.out x (List.mem_of_mem_drop (List.mem_of_mem_take hx)))
    have h2 : ((l.drop at_).take k).length ≤ 7 := by rw [List.length_take]; omega
    have h3 : 256 ^ ((l.drop at_).take k).length ≤ 256 ^ 7 := Nat.pow_le_pow_right (by omega) h2
    omega
   have hy := ByL.get hby.out (at_ + k)
   have hnx : Hid (numB ((l.drop at_).take (k + 1)) = numB ((l.drop at_).take k) * 256 + l.getD (at_ + k) 0) := by
    rw [Hid, List.take_succ_eq_append_getElem (by rw [List.length_drop, hll.out]; omega), numB_snoc]
    simp [List.getD_eq_getElem?_getD, List.getElem?_eq_getElem (show at_ + k < l.length by rw [hll.out]; omega)]
   have hor : bits .or .u64 ((numB ((l.drop at_).take k) : Nat) * 256 : Int) (l.getD (at_ + k) 0 : Nat) = (numB ((l.drop at_).take k) * 256 + l.getD (at_ + k) 0 : Nat) := by
    have := u64_or_nat (numB ((l.drop at_).take k) * 256) (l.getD (at_ + k) 0) (by omega) (by omega)
    rw [or_byte _ _ hy] at this
    rw [← this]; push_cast; rfl
   generalize numB ((l.drop at_).take k) = x at *
   generalize l.getD (at_ + k) 0 = y at *
   go_wp2_with fail
   go_round
   case rel => exact ⟨k + 1, by omega, by go_num, by rw [hnx.out]; push_cast; rfl⟩
   case measure => simp [intOf]; omega
  ·obtain rfl : k = n := by omega
   go_wp2_with fail
   go_ret2
   exact ⟨rfl, rfl⟩
end Go.Proofs.Ytojedpahaifjgaa
