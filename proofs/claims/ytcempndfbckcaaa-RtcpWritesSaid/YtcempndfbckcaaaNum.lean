/- octets.Num and octets.Put. No condition but the sizes'. -/
import Derived.Test.YtcempndfbckcaaaPre
namespace Go.Proofs.Ytcempndfbckcaaa
open Go.RowKit
theorem or_byte (x c : Nat) (hc : c < 256) : (x * 256) ||| c = x * 256 + c := by
 have := Nat.two_pow_add_eq_or_of_lt (i := 8) (b := c) hc x
 rw [Nat.mul_comm x 256]
 exact this.symm
set_option maxRecDepth 100000 in
set_option maxHeartbeats 2000000 in
theorem num_ok (v : Value) (len : Nat) (l : List Nat) (at_ n : Nat) (a b : Int) (hn1 : 1 ≤ n) (hn8 : n ≤ 8) (hat : at_ + n ≤ len) (ha : a = at_) (hb : b = n) (w : World) (hv : SB w v len l) :
  Calls Try.prog 71 #[v, .int .i64 a, .int .i64 b] w fun e w' => e = .returned (.tuple #[.int .u64 (numB ((l.drop at_).take n) : Nat), .bool true]) ∧ w = w' := by
 subst ha
 subst hb
 obtain ⟨g, o, cap, rfl, hc, hm, hg, hcell⟩ := hv.form (by omega)
 have hby := Lib.hid hv.2.1
 have hll := Lib.hid hv.1
 unfold maxLen at hm
 replace hcell := Lib.hid hcell
 clear hv
 go_enter Try.func71, Try.ntmps71
 go_wp2_with fail
 go_loop [8, 42] (fun x i => ∃ k : Nat, k ≤ n ∧ i = .int .i64 (k : Nat) ∧ x = .int .u64 (numB ((l.drop at_).take k) : Nat)) (fun _ i => (n - intOf i).toNat)
 case atStart => exact ⟨0, by omega, rfl, rfl⟩
 case round =>
  obtain ⟨k, hk, rfl, rfl⟩ := hrel
  by_cases hkn : k < n
  ·have hc1 := hcell.out (at_ + k) (by omega)
   rw [← Nat.add_assoc] at hc1
   have hlt : numB ((l.drop at_).take k) < 72057594037927936 := by
    have h1 := numB_lt ((l.drop at_).take k) (fun x hx => hby.out x (List.mem_of_mem_drop (List.mem_of_mem_take hx)))
    have h2 : ((l.drop at_).take k).length ≤ 7 := by rw [List.length_take]; omega
    have h3 : 256 ^ ((l.drop at_).take k).length ≤ 256 ^ 7 := Nat.pow_le_pow_right (by omega) h2
    omega
   have hy := ByL.get hby.out (at_ + k)
   have hnx : Hid (numB ((l.drop at_).take (k + 1)) = numB ((l.drop at_).take k) * 256 + l.getD (at_ + k) 0) := by
    rw [Hid, List.take_succ_eq_append_getElem (by rw [List.length_drop, hll.out]; omega), numB_snoc]
    simp [List.getD_eq_getElem?_getD, List.getElem?_eq_getElem (show at_ + k < l.length by rw [hll.out]; omega)]
   have hor : bits .or .u64 ((numB ((l.drop at_).take k) : Nat) * 256 : Int) (l.getD (at_ + k) 0 : Nat) = (numB ((l.drop at_).take k) * 256 + l.getD (at_ + k) 0 : Nat) := by
    have := u64_or_nat (numB ((l.drop at_).take k) * 256) (l.getD (at_ + k) 0) (by omega) (by omega)
    rw [or_byte _ _ hy] at this
    rw [← this]; push_cast; rfl
   generalize numB ((l.drop at_).take k) = x at *
   generalize l.getD (at_ + k) 0 = y at *
   go_wp2_with fail
   go_round
   case rel => exact ⟨k + 1, by omega, by go_num, by rw [hnx.out]; push_cast; rfl⟩
   case measure => simp [intOf]; omega
  ·obtain rfl : k = n := by omega
   go_wp2_with fail
   go_ret2
   exact ⟨rfl, rfl⟩
theorem putB_take (n x k : Nat) (hk : k < n) : (putB n x).take (k + 1) = (putB n x).take k ++ [x / 256 ^ (n - 1 - k) % 256] := by
 rw [List.take_succ_eq_append_getElem (by rw [putB_len]; exact hk)]
 simp [putB]
theorem putB_all (n x : Nat) : (putB n x).take n = putB n x := List.take_of_length_le (by rw [putB_len]; exact Nat.le_refl _)
set_option maxRecDepth 100000 in
set_option maxHeartbeats 4000000 in
theorem put_ok (v : Value) (len : Nat) (l : List Nat) (n x : Nat) (b : Int) (hn1 : 1 ≤ n) (hn8 : n ≤ 8) (hb : b = n) (hx : x < 18446744073709551616) (hlen : len ≤ 1000000000000) (w : World) (hv : SB w v len l) :
  Calls Try.prog 62 #[v, .int .i64 b, .int .u64 (x : Nat)] w fun e w' => ∃ v', e = .returned v' ∧ OB w' w.heap.size 5 v' (len + n) (l ++ putB n x) ∧ Below w.heap.size w w' := by
 subst hb
 obtain ⟨sa, cap, rfl, hc, hm⟩ := hv.len
 unfold maxLen at hm
 have hv0 : Hid (SB w (.slice sa len len) len l) := by
  obtain ⟨h1, h2, h3, h4, h5⟩ := hv
  refine ⟨h1, h2, h3, h4, ?_⟩
  rcases h5 with ⟨rfl, sa', cp, he, h6, h7⟩ | ⟨g, o, cp, he, h6, h7, h8, h9⟩
  ·cases he; exact .inl ⟨rfl, sa, 0, rfl, fun _ => rfl, by decide⟩
  ·cases he; exact .inr ⟨g, o, len, rfl, Nat.le_refl _, h4, h8, h9⟩
 replace hv := Lib.hid hv
 go_enter Try.func62, Try.ntmps62
 go_wp2_with fail
 go_loopg [7, 23] n (fun m o i wx => ∃ k, m = n - k ∧ k ≤ n ∧ i = .int .i64 (k : Nat) ∧ Hid (Below w.heap.size w wx) ∧ (k = 0 ∧ o = .slice sa len len ∨ 0 < k ∧ Hid (OB wx w.heap.size 5 o (len + k) (l ++ (putB n x).take k))))
 case atStart => exact ⟨0, by omega, by omega, rfl, Below.refl _ _, .inl ⟨rfl, rfl⟩⟩
 case round =>
  obtain ⟨k, rfl, hk, rfl, L, ho⟩ := hrel
  by_cases hkn : k < n
  ·have hy : x / 256 ^ (n - 1 - k) % 256 < 256 := Nat.mod_lt _ (by decide)
   have hval : (x : Int) / 2 ^ (8 * (n - 1 - k)) % 256 = ((x / 256 ^ (n - 1 - k) % 256 : Nat) : Int) := by
    rw [show 256 ^ (n - 1 - k) = 2 ^ (8 * (n - 1 - k)) by rw [show 256 = 2 ^ 8 from rfl, ← Nat.pow_mul]]; simp
   have hsn := Lib.hid (putB_take n x k hkn)
   have hpl : Hid (((putB n x).take k).length = k) := by rw [Hid, List.length_take, putB_len]; omega
   have hpb : Hid (ByL ((putB n x).take k)) := ByL.take (putB_byt n x) k
   generalize x / 256 ^ (n - 1 - k) % 256 = y at *
   rcases ho with ⟨rfl, rfl⟩ | ⟨hk0, O⟩
   ·rw [Nat.sub_zero] at hval
    go_wp2_with (at_builtin; go_must (refine wpList_apf slU8 rfl 36 _ _ rfl w.heap.size sa len (bvs l) rfl ((hv0.out.below L.out (Nat.le_refl _)).alloc _).2.2 _ rfl 1 (bvs [y]) (OB.sb_app Try.underlying36 (SB.new1 wr _ y hy)) (by omega) (by omega) (by have := L.out.size; simp; omega) ?_; intro v' w' h1 h2; have L2 := Lib.hid ((L.out.alloc L.out.size (.cells #[.int .u8 (y : Nat)] 5)).trans ((grown_none h2).mono (by have := L.out.size; simp; omega))); replace h1 := Lib.hid (OB.of_app h1 hv0.out.1 rfl hv0.out.2.1 (by intro z hz; simp at hz; omega)); clear h2))
    go_roundg (n - (0 + 1))
    case measure => omega
    case rel => exact ⟨0 + 1, rfl, by omega, rfl, L2, .inr ⟨by omega, by rw [hsn.out]; exact h1⟩⟩
   ·go_wp2_with (at_builtin; go_must (refine wpList_aps slU8 rfl 36 _ _ rfl w.heap.size _ (len + k) (bvs (l ++ (putB n x).take k)) rfl (O.out.alloc _).2.2 _ rfl 1 (bvs [y]) (OB.sb_app Try.underlying36 (SB.new1 wr _ y hy)) (by omega) (by have := L.out.size; simp; omega) ?_; intro v' w' h1 h2 h3; clear h3; have L2 := Lib.hid ((L.out.alloc L.out.size (.cells #[.int .u8 (y : Nat)] 5)).trans (Ows.grown (by have := L.out.size; simp; omega) (Nat.le_refl _) (O.out.alloc _).2.2 h2)); replace h1 := Lib.hid (OB.of_app h1 (by rw [List.length_append, hv0.out.1, hpl.out]) rfl (hv0.out.2.1.append hpb.out) (by intro z hz; simp at hz; omega)); clear h2))
    go_roundg (n - (k + 1))
    case measure => omega
    case rel => exact ⟨k + 1, rfl, by omega, by go_num, L2, .inr ⟨by omega, by rw [hsn.out, ← List.append_assoc]; exact h1⟩⟩
  ·obtain rfl : k = n := by omega
   rcases ho with ⟨h0, _⟩ | ⟨hk0, O⟩
   ·omega
   ·go_wp2_with fail
    go_ret
    exact ⟨_, rfl, by rw [← putB_all k x]; exact O.out, L.out⟩
end Go.Proofs.Ytcempndfbckcaaa
