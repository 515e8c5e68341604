/- Numbers as bytes, and back. Nothing of the program; no condition. The reference's numbers. No condition but the sizes'. The reference's numbers and turned words. No condition but the sizes'. The reference's Put. No condition but the sizes'. -/
import Derived.Test.YtikmhlbpefednaaGreatGKi
import Derived.Test.YtikmhlbpefednaaGreatGW6
namespace Go.Proofs.YtikmhlbpefednaaGreat
open Go.RowKit
theorem numB_foldl (l : List Nat) : ∀ a, l.foldl (fun x c => x * 256 + c) a = a * 256 ^ l.length + numB l := by
 induction l with
 | nil => intro a; simp [numB]
 | cons c l ih =>
  intro a
  have h0 := ih c
  have h1 := ih (a * 256 + c)
  simp only [numB, List.foldl_cons, List.length_cons, Nat.zero_mul, Nat.zero_add] at h0 h1 ⊢
  rw [h1, h0, Nat.pow_succ, Nat.add_mul, Nat.mul_assoc, Nat.mul_comm 256, Nat.add_assoc]
theorem numB_cons (c : Nat) (l : List Nat) : numB (c :: l) = 256 ^ l.length * c + numB l := by
 have := numB_foldl l c
 simp only [numB, List.foldl_cons, Nat.zero_mul, Nat.zero_add] at this ⊢
 rw [this, Nat.mul_comm]
theorem putB_cons (n x : Nat) : putB (n + 1) x = x / 256 ^ n % 256 :: putB n x := by
 unfold putB
 rw [List.range_succ_eq_map, List.map_cons, List.map_map]
 simp only [Nat.add_sub_cancel, Nat.sub_zero, List.cons.injEq, true_and]
 refine List.map_congr_left fun i hi => ?_
 have := List.mem_range.1 hi
 simp only [Function.comp, Nat.succ_eq_add_one]
 rw [show n - (i + 1) = n - 1 - i by omega]
theorem putB_add (a x : Nat) : ∀ n, n ≤ a → ∀ y, putB n (x * 256 ^ a + y) = putB n y
 | 0, _, _ => rfl
 | n + 1, h, y => by
  rw [putB_cons, putB_cons, putB_add a x n (by omega) y]
  congr 1
  rw [show a = n + 1 + (a - n - 1) by omega, Nat.pow_add, Nat.pow_succ]
  rw [show x * (256 ^ n * 256 * 256 ^ (a - n - 1)) = 256 ^ n * (256 * (x * 256 ^ (a - n - 1))) by ac_rfl, Nat.mul_add_div (Nat.pow_pos (by decide)), Nat.mul_add_mod]
theorem putB_split (b : Nat) (x z : Nat) (hz : z < 256 ^ b) : ∀ a, putB (a + b) (x * 256 ^ b + z) = putB a x ++ putB b z
 | 0 => by rw [Nat.zero_add, putB_add b x b (Nat.le_refl _)]; rfl
 | a + 1 => by
  rw [show a + 1 + b = (a + b) + 1 by omega, putB_cons, putB_cons, putB_split b x z hz a, List.cons_append]
  congr 2
  rw [Nat.add_comm a b, Nat.pow_add, ← Nat.div_div_eq_div_mul, Nat.mul_comm x, Nat.mul_add_div (Nat.pow_pos (by decide)), Nat.div_eq_of_lt hz, Nat.add_zero]
theorem putB_numB : ∀ (l : List Nat), ByL l → putB l.length (numB l) = l
 | [], _ => rfl
 | c :: l, h => by
  have hl : ByL l := fun x hx => h x (by simp [hx])
  rw [List.length_cons, putB_cons, numB_cons, Nat.mul_add_div (Nat.pow_pos (by decide)), Nat.div_eq_of_lt (numB_lt l hl), Nat.add_zero, Nat.mod_eq_of_lt (h c (by simp))]
  rw [Nat.mul_comm, putB_add _ _ _ (Nat.le_refl _), putB_numB l hl]
theorem numB_putB (n x : Nat) : numB (putB n x) = x % 256 ^ n := by
 induction n with
 | zero => simp [putB, numB]; omega
 | succ n ih =>
  rw [putB_cons, numB_cons, ih, putB_len, Nat.pow_succ, Nat.mod_mul]
  omega
theorem putB_mod (n x : Nat) : putB n (x % 256 ^ n) = putB n x := by
 conv => rhs; rw [← Nat.div_add_mod x (256 ^ n), Nat.mul_comm, putB_add n _ n (Nat.le_refl _)]
theorem putB_ctr (x k : Nat) : putB 16 (numB (putB 16 x) + k) = putB 16 (x + k) := by
 rw [numB_putB, ← putB_mod 16 (x % 256 ^ 16 + k), Nat.mod_add_mod, putB_mod]
theorem numB_append (a b : List Nat) : numB (a ++ b) = numB a * 256 ^ b.length + numB b := by
 induction a with
 | nil => simp [numB]
 | cons c a ih =>
  rw [List.cons_append, numB_cons, numB_cons, ih, List.length_append, Nat.pow_add, Nat.add_mul, ← Nat.add_assoc]
  congr 2
  ac_rfl
end Go.Proofs.YtikmhlbpefednaaGreat

namespace Go.Proofs.YtikmhlbpefednaaGreat
open Go.RowKit
set_option maxRecDepth 100000 in
set_option maxHeartbeats 2000000 in
theorem rnum_ok (v : Value) (len : Nat) (l : List Nat) (at_ n : Nat) (a b : Int) (hn1 : 1 ≤ n) (hn8 : n ≤ 7) (hat : at_ + n ≤ len) (hlen : len ≤ 1000000000000) (ha : a = at_) (hb : b = n) (w : World) (hv : SB w v len l) :
  Calls Tryz.prog 73 #[v, .int .i64 a, .int .i64 b] w fun e w' => e = .returned (.int .u64 (numB ((l.drop at_).take n) : Nat)) ∧ w = w' := by
 subst ha
 subst hb
 obtain ⟨g, o, cap, rfl, hc, hm, hg, hcell⟩ := hv.form (by omega)
 have hby := Lib.hid hv.2.1
 have hll := Lib.hid hv.1
 unfold maxLen at hm
 replace hcell := Lib.hid hcell
 clear hv
 go_enter Tryz.func73, Tryz.ntmps73
 go_wp2_with fail
 go_loop [7, 8, 9] (fun x p i => ∃ k : Nat, k ≤ n ∧ i = .int .i64 ((at_ + n - k : Nat) - 1 : Int) ∧ p = .int .u64 (256 ^ k : Nat) ∧ x = .int .u64 (numB ((l.drop (at_ + n - k)).take k) : Nat)) (fun _ _ i => (intOf i + 1 - at_).toNat)
 case atStart => exact ⟨0, by omega, by simp, rfl, by simp [numB]⟩
 case round =>
  obtain ⟨k, hk, rfl, rfl, rfl⟩ := hrel
  by_cases hkn : k < n
  ·have hc1 := hcell.out (at_ + n - k - 1) (by omega)
   have hnl : (((l.drop (at_ + n - k)).take k)).length = k := by rw [List.length_take, List.length_drop, hll.out]; omega
   have hlt : numB ((l.drop (at_ + n - k)).take k) < 256 ^ k := by
    have h1 := numB_lt ((l.drop (at_ + n - k)).take k) (fun x hx => hby.out x (List.mem_of_mem_drop (List.mem_of_mem_take hx)))
    rw [hnl] at h1; exact h1
   have hp : 256 ^ k ≤ 256 ^ 6 := Nat.pow_le_pow_right (by omega) (by omega)
   have hy := ByL.get hby.out (at_ + n - k - 1)
   have hnx : Hid (numB ((l.drop (at_ + n - (k + 1))).take (k + 1)) = 256 ^ k * l.getD (at_ + n - k - 1) 0 + numB ((l.drop (at_ + n - k)).take k)) := by
    have hd : (l.drop (at_ + n - (k + 1))).take (k + 1) = l.getD (at_ + n - k - 1) 0 :: (l.drop (at_ + n - k)).take k := by
     rw [List.drop_eq_getElem_cons (by rw [hll.out]; omega), List.take_succ_cons]
     congr 1
     ·simp [List.getD_eq_getElem?_getD, List.getElem?_eq_getElem (show at_ + n - k - 1 < l.length by rw [hll.out]; omega)]
      rfl
     ·congr 2; omega
    rw [Hid, hd, numB_cons, hnl]
   have hpn : Hid (256 ^ (k + 1) = 256 ^ k * 256) := Nat.pow_succ ..
   clear hnl
   generalize numB ((l.drop (at_ + n - k)).take k) = x at *
   generalize l.getD (at_ + n - k - 1) 0 = y at *
   generalize 256 ^ k = p at *
   have hmul : p * y ≤ p * 255 := Nat.mul_le_mul_left _ (by omega)
   have hmi : ((p : Int) * (y : Int)) = ((p * y : Nat) : Int) := by push_cast; rfl
   generalize hpy : p * y = py at *
   have e1 : (((at_ + n - k : Nat) : Int) - 1) = ((at_ + n - k - 1 : Nat) : Int) := by omega
   rw [e1]
   go_wp2_with fail
   go_round
   case rel => exact ⟨k + 1, by omega, congrArg _ (by omega), by rw [hpn.out]; push_cast; rfl, by rw [hnx.out]; exact congrArg _ (by push_cast; omega)⟩
   case measure => simp [intOf]; omega
  ·obtain rfl : k = n := by omega
   have e1 : (((at_ + k - k : Nat) : Int) - 1) = (at_ : Int) - 1 := by omega
   rw [e1]
   go_wp2_with fail
   go_ret
   exact ⟨rfl, rfl⟩
end Go.Proofs.YtikmhlbpefednaaGreat

namespace Go.Proofs.YtikmhlbpefednaaGreat
open Go.RowKit
theorem rol_sum (x m : Nat) (h1 : 1 ≤ m) (h2 : m ≤ 31) (hx : x < 4294967296) : rol x m = x * 2 ^ m % 4294967296 + x / 2 ^ (32 - m) := by
 unfold rol
 rw [Nat.shiftLeft_eq, Nat.shiftRight_eq_div_pow]
 have e : (4294967296 : Nat) = 2 ^ (32 - m) * 2 ^ m := by rw [← Nat.pow_add, show 32 - m + m = 32 by omega]
 have hlo : x / 2 ^ (32 - m) < 2 ^ m := by
  rw [Nat.div_lt_iff_lt_mul (Nat.pow_pos (by decide)), Nat.mul_comm, ← e]; exact hx
 have hhi : x * 2 ^ m % 4294967296 = 2 ^ m * (x % 2 ^ (32 - m)) := by
  rw [e, Nat.mul_mod_mul_right, Nat.mul_comm]
 rw [hhi]
 exact (Nat.two_pow_add_eq_or_of_lt hlo _).symm
theorem rol_int (x m : Nat) (h1 : 1 ≤ m) (h2 : m ≤ 31) (hx : x < 4294967296) : (rol x m : Int) = (x : Int) * ((2 ^ m : Nat) : Int) % 4294967296 + (x : Int) / ((2 ^ (32 - m) : Nat) : Int) := by
 rw [rol_sum x m h1 h2 hx, Int.natCast_add, Int.natCast_emod, Int.natCast_mul, Int.natCast_ediv]
 rfl
set_option maxRecDepth 100000 in
set_option maxHeartbeats 1000000 in
theorem left_1 (x : Nat) (hx : x < 4294967296) (w : World) :
  Calls Tryz.prog 116 #[.int .u32 (x : Nat), .int .u64 1] w fun e w' => e = .returned (.int .u32 (rol x 1 : Nat)) ∧ w = w' := by
 have k1 : (rol x 1 : Int) = (x : Int) * 2 % 4294967296 + (x : Int) / 2147483648 := by
  have h := rol_int x 1 (by omega) (by omega) hx
  simp only [Nat.reducePow, Nat.reduceSub] at h
  exact h
 have l1 := rol_lt x 1 hx
 replace k1 := Lib.hid k1
 have l2 : (x : Int) * 2 % 4294967296 + (x : Int) / 2147483648 ≤ 4294967295 := by rw [← k1.out]; omega
 clear l1 hx
 go_enter Tryz.func116, Tryz.ntmps116
 go_wp2_with fail
 go_ret
 rw [k1.out]
 exact ⟨rfl, rfl⟩
set_option maxRecDepth 100000 in
set_option maxHeartbeats 1000000 in
theorem left_5 (x : Nat) (hx : x < 4294967296) (w : World) :
  Calls Tryz.prog 116 #[.int .u32 (x : Nat), .int .u64 5] w fun e w' => e = .returned (.int .u32 (rol x 5 : Nat)) ∧ w = w' := by
 have k1 : (rol x 5 : Int) = (x : Int) * 32 % 4294967296 + (x : Int) / 134217728 := by
  have h := rol_int x 5 (by omega) (by omega) hx
  simp only [Nat.reducePow, Nat.reduceSub] at h
  exact h
 have l1 := rol_lt x 5 hx
 replace k1 := Lib.hid k1
 have l2 : (x : Int) * 32 % 4294967296 + (x : Int) / 134217728 ≤ 4294967295 := by rw [← k1.out]; omega
 clear l1 hx
 go_enter Tryz.func116, Tryz.ntmps116
 go_wp2_with fail
 go_ret
 rw [k1.out]
 exact ⟨rfl, rfl⟩
set_option maxRecDepth 100000 in
set_option maxHeartbeats 1000000 in
theorem left_30 (x : Nat) (hx : x < 4294967296) (w : World) :
  Calls Tryz.prog 116 #[.int .u32 (x : Nat), .int .u64 30] w fun e w' => e = .returned (.int .u32 (rol x 30 : Nat)) ∧ w = w' := by
 have k1 : (rol x 30 : Int) = (x : Int) * 1073741824 % 4294967296 + (x : Int) / 4 := by
  have h := rol_int x 30 (by omega) (by omega) hx
  simp only [Nat.reducePow, Nat.reduceSub] at h
  exact h
 have l1 := rol_lt x 30 hx
 replace k1 := Lib.hid k1
 have l2 : (x : Int) * 1073741824 % 4294967296 + (x : Int) / 4 ≤ 4294967295 := by rw [← k1.out]; omega
 clear l1 hx
 go_enter Tryz.func116, Tryz.ntmps116
 go_wp2_with fail
 go_ret
 rw [k1.out]
 exact ⟨rfl, rfl⟩
end Go.Proofs.YtikmhlbpefednaaGreat

namespace Go.Proofs.YtikmhlbpefednaaGreat
open Go.RowKit
theorem run_make1 : ∀ w, (Instr.makeSlice 35 (.int .i64 1) (.int .i64 1)).run Tryz.prog w = .ok (.slice (some ⟨w.heap.size, 0, none⟩) 1 1) (w.alloc (.cells (ivA .u8 (zeros 1)) 5)) := fun w => by kernel_rfl
theorem run_make2 : ∀ w, (Instr.makeSlice 35 (.int .i64 2) (.int .i64 2)).run Tryz.prog w = .ok (.slice (some ⟨w.heap.size, 0, none⟩) 2 2) (w.alloc (.cells (ivA .u8 (zeros 2)) 5)) := fun w => by kernel_rfl
theorem run_make3 : ∀ w, (Instr.makeSlice 35 (.int .i64 3) (.int .i64 3)).run Tryz.prog w = .ok (.slice (some ⟨w.heap.size, 0, none⟩) 3 3) (w.alloc (.cells (ivA .u8 (zeros 3)) 5)) := fun w => by kernel_rfl
theorem run_make4 : ∀ w, (Instr.makeSlice 35 (.int .i64 4) (.int .i64 4)).run Tryz.prog w = .ok (.slice (some ⟨w.heap.size, 0, none⟩) 4 4) (w.alloc (.cells (ivA .u8 (zeros 4)) 5)) := fun w => by kernel_rfl
theorem run_make5 : ∀ w, (Instr.makeSlice 35 (.int .i64 5) (.int .i64 5)).run Tryz.prog w = .ok (.slice (some ⟨w.heap.size, 0, none⟩) 5 5) (w.alloc (.cells (ivA .u8 (zeros 5)) 5)) := fun w => by kernel_rfl
theorem run_make6 : ∀ w, (Instr.makeSlice 35 (.int .i64 6) (.int .i64 6)).run Tryz.prog w = .ok (.slice (some ⟨w.heap.size, 0, none⟩) 6 6) (w.alloc (.cells (ivA .u8 (zeros 6)) 5)) := fun w => by kernel_rfl
theorem run_make7 : ∀ w, (Instr.makeSlice 35 (.int .i64 7) (.int .i64 7)).run Tryz.prog w = .ok (.slice (some ⟨w.heap.size, 0, none⟩) 7 7) (w.alloc (.cells (ivA .u8 (zeros 7)) 5)) := fun w => by kernel_rfl
theorem run_make8 : ∀ w, (Instr.makeSlice 35 (.int .i64 8) (.int .i64 8)).run Tryz.prog w = .ok (.slice (some ⟨w.heap.size, 0, none⟩) 8 8) (w.alloc (.cells (ivA .u8 (zeros 8)) 5)) := fun w => by kernel_rfl
theorem run_makeN (n : Nat) (h1 : 1 ≤ n) (h8 : n ≤ 8) : ∀ w, (Instr.makeSlice 35 (.int .i64 (n : Nat)) (.int .i64 (n : Nat))).run Tryz.prog w = .ok (.slice (some ⟨w.heap.size, 0, none⟩) n n) (w.alloc (.cells (ivA .u8 (zeros n)) 5)) := by
 rcases (show n = 1 ∨ n = 2 ∨ n = 3 ∨ n = 4 ∨ n = 5 ∨ n = 6 ∨ n = 7 ∨ n = 8 by omega) with rfl | rfl | rfl | rfl | rfl | rfl | rfl | rfl
 ·exact run_make1
 ·exact run_make2
 ·exact run_make3
 ·exact run_make4
 ·exact run_make5
 ·exact run_make6
 ·exact run_make7
 ·exact run_make8
theorem still_setC (w : World) (g o : Nat) (v : Value) : Still [g] w (w.setCell ⟨g, o, none⟩ v) := by
 obtain ⟨f1, f2, f3, f4⟩ := setCells_frame g [v] o w
 exact ⟨f1, f2, f3, by show w.heap.size ≤ (w.setCells g o [v]).heap.size; rw [f4]; exact Nat.le_refl _, fun k _ hk => setCells_other g [v] o w k (by simpa using hk)⟩
def plB (n x k : Nat) : List Nat := zeros (n - k) ++ (putB n x).drop (n - k)
theorem plB_zero (n x : Nat) : plB n x 0 = zeros n := by
 unfold plB; rw [Nat.sub_zero, List.drop_of_length_le (by rw [putB_len]; exact Nat.le_refl _), List.append_nil]
theorem plB_end (n x : Nat) : plB n x n = putB n x := by
 unfold plB; rw [Nat.sub_self, List.drop_zero]; rfl
theorem plB_byt (n x k : Nat) : ByL (plB n x k) := by
 unfold plB
 refine ByL.append (fun y hy => ?_) (ByL.drop (putB_byt n x) _)
 have : y = 0 := by unfold zeros at hy; exact List.eq_of_mem_replicate hy
 omega
theorem plB_step (n x k : Nat) (hk : k < n) : (plB n x k).set (n - 1 - k) (x / 256 ^ k % 256) = plB n x (k + 1) := by
 unfold plB
 have hd : (putB n x).drop (n - (k + 1)) = (x / 256 ^ k % 256) :: (putB n x).drop (n - k) := by
  rw [List.drop_eq_getElem_cons (by rw [putB_len]; omega)]
  congr 1
  ·simp only [putB, List.getElem_map, List.getElem_range]
   congr 3; omega
  ·congr 1; omega
 have hz : zeros (n - k) = zeros (n - (k + 1)) ++ [0] := by
  unfold zeros
  rw [show n - k = n - (k + 1) + 1 by omega, List.replicate_succ']
 have hi : n - 1 - k = n - (k + 1) := by omega
 have hl : (zeros (n - (k + 1))).length = n - (k + 1) := zeros_len _
 rw [hd, hz, hi, List.append_assoc, List.set_append_right _ _ (by omega), hl, Nat.sub_self]
 rfl
set_option maxRecDepth 100000 in
set_option maxHeartbeats 4000000 in
theorem rput_ok (v : Value) (len : Nat) (l : List Nat) (n x : Nat) (b : Int) (hn1 : 1 ≤ n) (hn8 : n ≤ 8) (hb : b = n) (hx : x < 18446744073709551616) (hlen : len ≤ 1000000000000) (w : World) (hv : SB w v len l) :
  Calls Tryz.prog 72 #[v, .int .i64 b, .int .u64 (x : Nat)] w fun e w' => ∃ v', e = .returned v' ∧ OB w' w.heap.size 5 v' (len + n) (l ++ putB n x) ∧ Below w.heap.size w w' := by
 subst hb
 have hll := Lib.hid hv.1
 have hlb := Lib.hid hv.2.1
 have mk := run_makeN n hn1 hn8
 replace hv := Lib.hid hv
 go_enter Tryz.func72, Tryz.ntmps72
 go_wp2_with (at_builtin; go_must (refine wpList_aps slU8 rfl 35 _ _ rfl w.heap.size (.slice (some ⟨w.heap.size, 0, none⟩) 0 0) 0 [] rfl (Ows.new w _ 5 1 #[] [] 0 (Nat.le_refl _) rfl (by decide) rfl) _ rfl len (bvs l) (OB.sb_app Tryz.underlying35 (hv.out.alloc _)) (by omega) (by simp) ?_; intro v' w' h1 h2 h3; clear h3; have L2 := Lib.hid (((Below.refl w.heap.size w).alloc (Nat.le_refl _) (.cells #[] 5)).trans (Ows.grown (by simp) (Nat.le_refl _) (Ows.new w _ 5 1 #[] [] 0 (Nat.le_refl _) rfl (by decide) rfl) h2)); replace h1 := Lib.hid (OB.of_app (l := []) (k := l) h1 rfl hll.out (by simp [ByL]) hlb.out); simp only [Nat.zero_add, List.nil_append] at h1; clear h2; obtain ⟨sn, cn, rfl, hcn, hmn⟩ := h1.out.len))
 have hlen1 := Lib.hid h1.out.2.2.lt
 have hne : Hid (∀ k, (Value.slice sn len cn).ownBlock = some k → k ∉ [w'.heap.size]) := fun k hk => by have := (hlen1.out k (by simpa using hk)).2; simp; omega
 have O5 : Hid (OB (w'.alloc (.cells (ivA .u8 (zeros n)) 5)) w.heap.size 5 (.slice (some ⟨w'.heap.size, 0, none⟩) n n) n (plB n x 0)) := by
  rw [plB_zero]
  exact ⟨zeros_len n, by rw [← plB_zero n x]; exact plB_byt n x 0, Ows.new w' _ _ 1 _ _ n L2.out.size (by simp [bvs, zeros_len]) (by unfold maxLen; omega) (by simp [ivA, bvs])⟩
 have A5 := Lib.hid (h1.out.alloc (.cells (ivA .u8 (zeros n)) 5))
 have L5 := Lib.hid (L2.out.alloc L2.out.size (.cells (ivA .u8 (zeros n)) 5))
 have hg5 : w.heap.size ≤ w'.heap.size := L2.out.size
 clear h1 L2 hlen1 mk
 generalize w'.alloc (.cells (ivA .u8 (zeros n)) 5) = w5 at *
 generalize w'.heap.size = gl at *
 go_loopg [2, 9] n (fun m y i wx => ∃ k, m = n - k ∧ k ≤ n ∧ i = .int .i64 ((n - k : Nat) - 1 : Int) ∧ y = .int .u64 (x / 256 ^ k : Nat) ∧ Hid (Still [gl] w5 wx) ∧ Hid (OB wx w.heap.size 5 (.slice (some ⟨gl, 0, none⟩) n n) n (plB n x k)))
 case atStart => exact ⟨0, by omega, by omega, by simp, by simp, Still.refl _ _, O5⟩
 case round =>
  clear O5
  obtain ⟨k, rfl, hk, rfl, rfl, S6, O6⟩ := hrel
  by_cases hkn : k < n
  ·obtain ⟨g, o, cap, he, _, hlt, _, _, hcell, hfz⟩ := O6.out.form (by omega)
   cases he
   have hst := Lib.hid (plB_step n x k hkn)
   have hc := hcell (n - 1 - k) (by omega)
   have hf := hfz (0 + (n - 1 - k))
   have hset := fun y (hy : y < 256) => Lib.hid (O6.out.set (n - 1 - k) (by omega) y hy)
   have hnx : Hid (x / 256 ^ (k + 1) = x / 256 ^ k / 256) := by rw [Hid, Nat.pow_succ, Nat.div_div_eq_div_mul]
   have hxk : x / 256 ^ k < 18446744073709551616 := Nat.lt_of_le_of_lt (Nat.div_le_self _ _) hx
   have e1 : (((n - k : Nat) : Int) - 1) = ((n - 1 - k : Nat) : Int) := by omega
   rw [e1]
   rw [Nat.zero_add] at hc hf
   have SS := Lib.hid (fun y => S6.out.trans (still_setC wr gl (n - 1 - k) y))
   clear hcell hfz O6 S6
   generalize x / 256 ^ k = q at *
   go_wp2_with fail
   go_roundg (n - (k + 1))
   case measure => omega
   case rel =>
    have e2 : (q : Int) % 256 = ((q % 256 : Nat) : Int) := by push_cast; rfl
    rw [e2]
    refine ⟨k + 1, rfl, by omega, congrArg _ (by omega), by rw [hnx.out]; exact congrArg _ (by push_cast; rfl), SS.out _, ?_⟩
    have := (hset (q % 256) (Nat.mod_lt _ (by decide))).out
    rw [Nat.zero_add, hst.out] at this
    exact this
  ·obtain rfl : k = n := by omega
   have e1 : (((k - k : Nat) : Int) - 1) = (-1 : Int) := by omega
   rw [e1]
   have L6 := Lib.hid (L5.out.trans (S6.out.below L5.out.size (by simpa using hg5)))
   have A6 := Lib.hid (A5.out.still S6.out hne.out)
   rw [plB_end] at O6
   have hz6 := L6.out.size
   clear S6 A5 L5
   go_wp2_with (at_builtin; go_must (refine wpList_aps slU8 rfl 35 _ _ rfl w.heap.size (.slice sn len cn) len (bvs l) rfl A6.out.2.2 _ rfl k (bvs (putB k x)) (OB.sb_app Tryz.underlying35 O6.out.sb) (by omega) hz6 ?_; intro v' w' h1 h2 h3; clear h3; have L7 := Lib.hid (L6.out.trans (Ows.grown L6.out.size (Nat.le_refl _) A6.out.2.2 h2)); replace h1 := Lib.hid (OB.of_app (l := l) (k := putB k x) h1 hll.out (putB_len _ _) hlb.out (putB_byt _ _)); clear h2; obtain ⟨s7, c7, rfl, hc7, hm7⟩ := h1.out.len))
   go_ret
   exact ⟨_, rfl, h1.out, L7.out⟩
end Go.Proofs.YtikmhlbpefednaaGreat
