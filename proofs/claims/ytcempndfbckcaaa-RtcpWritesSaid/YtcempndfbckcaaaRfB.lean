/- The reference's Put. No condition but the sizes'. -/
import Derived.Test.YtcempndfbckcaaaRfN
namespace Go.Proofs.Ytcempndfbckcaaa
open Go.RowKit
theorem run_make1 : ∀ w, (Instr.makeSlice 36 (.int .i64 1) (.int .i64 1)).run Try.prog w = .ok (.slice (some ⟨w.heap.size, 0, none⟩) 1 1) (w.alloc (.cells (ivA .u8 (zeros 1)) 5)) := fun w => by kernel_rfl
theorem run_make2 : ∀ w, (Instr.makeSlice 36 (.int .i64 2) (.int .i64 2)).run Try.prog w = .ok (.slice (some ⟨w.heap.size, 0, none⟩) 2 2) (w.alloc (.cells (ivA .u8 (zeros 2)) 5)) := fun w => by kernel_rfl
theorem run_make3 : ∀ w, (Instr.makeSlice 36 (.int .i64 3) (.int .i64 3)).run Try.prog w = .ok (.slice (some ⟨w.heap.size, 0, none⟩) 3 3) (w.alloc (.cells (ivA .u8 (zeros 3)) 5)) := fun w => by kernel_rfl
theorem run_make4 : ∀ w, (Instr.makeSlice 36 (.int .i64 4) (.int .i64 4)).run Try.prog w = .ok (.slice (some ⟨w.heap.size, 0, none⟩) 4 4) (w.alloc (.cells (ivA .u8 (zeros 4)) 5)) := fun w => by kernel_rfl
theorem run_make5 : ∀ w, (Instr.makeSlice 36 (.int .i64 5) (.int .i64 5)).run Try.prog w = .ok (.slice (some ⟨w.heap.size, 0, none⟩) 5 5) (w.alloc (.cells (ivA .u8 (zeros 5)) 5)) := fun w => by kernel_rfl
theorem run_make6 : ∀ w, (Instr.makeSlice 36 (.int .i64 6) (.int .i64 6)).run Try.prog w = .ok (.slice (some ⟨w.heap.size, 0, none⟩) 6 6) (w.alloc (.cells (ivA .u8 (zeros 6)) 5)) := fun w => by kernel_rfl
theorem run_make7 : ∀ w, (Instr.makeSlice 36 (.int .i64 7) (.int .i64 7)).run Try.prog w = .ok (.slice (some ⟨w.heap.size, 0, none⟩) 7 7) (w.alloc (.cells (ivA .u8 (zeros 7)) 5)) := fun w => by kernel_rfl
theorem run_make8 : ∀ w, (Instr.makeSlice 36 (.int .i64 8) (.int .i64 8)).run Try.prog w = .ok (.slice (some ⟨w.heap.size, 0, none⟩) 8 8) (w.alloc (.cells (ivA .u8 (zeros 8)) 5)) := fun w => by kernel_rfl
theorem run_makeN (n : Nat) (h1 : 1 ≤ n) (h8 : n ≤ 8) : ∀ w, (Instr.makeSlice 36 (.int .i64 (n : Nat)) (.int .i64 (n : Nat))).run Try.prog w = .ok (.slice (some ⟨w.heap.size, 0, none⟩) n n) (w.alloc (.cells (ivA .u8 (zeros n)) 5)) := by
 rcases (show n = 1 ∨ n = 2 ∨ n = 3 ∨ n = 4 ∨ n = 5 ∨ n = 6 ∨ n = 7 ∨ n = 8 by omega) with rfl | rfl | rfl | rfl | rfl | rfl | rfl | rfl
 ·exact run_make1
 ·exact run_make2
 ·exact run_make3
 ·exact run_make4
 ·exact run_make5
 ·exact run_make6
 ·exact run_make7
 ·exact run_make8
theorem still_setC (w : World) (g o : Nat) (v : Value) : Still [g] w (w.setCell ⟨g, o, none⟩ v) := by
 obtain ⟨f1, f2, f3, f4⟩ := setCells_frame g [v] o w
 exact ⟨f1, f2, f3, by show w.heap.size ≤ (w.setCells g o [v]).heap.size; rw [f4]; exact Nat.le_refl _, fun k _ hk => setCells_other g [v] o w k (by simpa using hk)⟩
def plB (n x k : Nat) : List Nat := zeros (n - k) ++ (putB n x).drop (n - k)
theorem plB_zero (n x : Nat) : plB n x 0 = zeros n := by
 unfold plB; rw [Nat.sub_zero, List.drop_of_length_le (by rw [putB_len]; exact Nat.le_refl _), List.append_nil]
theorem plB_end (n x : Nat) : plB n x n = putB n x := by
 unfold plB; rw [Nat.sub_self, List.drop_zero]; rfl
theorem plB_byt (n x k : Nat) : ByL (plB n x k) := by
 unfold plB
 refine ByL.append (fun y hy => ?_) (ByL.drop (putB_byt n x) _)
 have : y = 0 := by unfold zeros at hy; exact List.eq_of_mem_replicate hy
 omega
theorem plB_step (n x k : Nat) (hk : k < n) : (plB n x k).set (n - 1 - k) (x / 256 ^ k % 256) = plB n x (k + 1) := by
 unfold plB
 have hd : (putB n x).drop (n - (k + 1)) = (x / 256 ^ k % 256) :: (putB n x).drop (n - k) := by
  rw [List.drop_eq_getElem_cons (by rw [putB_len]; omega)]
  congr 1
  ·simp only [putB, List.getElem_map, List.getElem_range]
   congr 3; omega
  ·congr 1; omega
 have hz : zeros (n - k) = zeros (n - (k + 1)) ++ [0] := by
  unfold zeros
  rw [show n - k = n - (k + 1) + 1 by omega, List.replicate_succ']
 have hi : n - 1 - k = n - (k + 1) := by omega
 have hl : (zeros (n - (k + 1))).length = n - (k + 1) := zeros_len _
 rw [hd, hz, hi, List.append_assoc, List.set_append_right _ _ (by omega), hl, Nat.sub_self]
 rfl
set_option maxRecDepth 100000 in
set_option maxHeartbeats 4000000 in
theorem rput_ok (v : Value) (len : Nat) (l : List Nat) (n x : Nat) (b : Int) (hn1 : 1 ≤ n) (hn8 : n ≤ 8) (hb : b = n) (hx : x < 18446744073709551616) (hlen : len ≤ 1000000000000) (w : World) (hv : SB w v len l) :
  Calls Try.prog 66 #[v, .int .i64 b, .int .u64 (x : Nat)] w fun e w' => ∃ v', e = .returned v' ∧ OB w' w.heap.size 5 v' (len + n) (l ++ putB n x) ∧ Below w.heap.size w w' := by
 subst hb
 have hll := Lib.hid hv.1
 have hlb := Lib.hid hv.2.1
 have mk := run_makeN n hn1 hn8
 replace hv := Lib.hid hv
 go_enter Try.func66, Try.ntmps66
 go_wp2_with (at_builtin; go_must (refine wpList_aps slU8 rfl 36 _ _ rfl w.heap.size (.slice (some ⟨w.heap.size, 0, none⟩) 0 0) 0 [] rfl (Ows.new w _ 5 1 #[] [] 0 (Nat.le_refl _) rfl (by decide) rfl) _ rfl len (bvs l) (OB.sb_app Try.underlying36 (hv.out.alloc _)) (by omega) (by simp) ?_; intro v' w' h1 h2 h3; clear h3; have L2 := Lib.hid (((Below.refl w.heap.size w).alloc (Nat.le_refl _) (.cells #[] 5)).trans (Ows.grown (by simp) (Nat.le_refl _) (Ows.new w _ 5 1 #[] [] 0 (Nat.le_refl _) rfl (by decide) rfl) h2)); replace h1 := Lib.hid (OB.of_app (l := []) (k := l) h1 rfl hll.out (by simp [ByL]) hlb.out); simp only [Nat.zero_add, List.nil_append] at h1; clear h2; obtain ⟨sn, cn, rfl, hcn, hmn⟩ := h1.out.len))
 have hlen1 := Lib.hid h1.out.2.2.lt
 have hne : Hid (∀ k, (Value.slice sn len cn).ownBlock = some k → k ∉ [w'.heap.size]) := fun k hk => by have := (hlen1.out k (by simpa using hk)).2; simp; omega
 have O5 : Hid (OB (w'.alloc (.cells (ivA .u8 (zeros n)) 5)) w.heap.size 5 (.slice (some ⟨w'.heap.size, 0, none⟩) n n) n (plB n x 0)) := by
  rw [plB_zero]
  exact ⟨zeros_len n, by rw [← plB_zero n x]; exact plB_byt n x 0, Ows.new w' _ _ 1 _ _ n L2.out.size (by simp [bvs, zeros_len]) (by unfold maxLen; omega) (by simp [ivA, bvs])⟩
 have A5 := Lib.hid (h1.out.alloc (.cells (ivA .u8 (zeros n)) 5))
 have L5 := Lib.hid (L2.out.alloc L2.out.size (.cells (ivA .u8 (zeros n)) 5))
 have hg5 : w.heap.size ≤ w'.heap.size := L2.out.size
 clear h1 L2 hlen1 mk
 generalize w'.alloc (.cells (ivA .u8 (zeros n)) 5) = w5 at *
 generalize w'.heap.size = gl at *
 go_loopg [2, 9] n (fun m y i wx => ∃ k, m = n - k ∧ k ≤ n ∧ i = .int .i64 ((n - k : Nat) - 1 : Int) ∧ y = .int .u64 (x / 256 ^ k : Nat) ∧ Hid (Still [gl] w5 wx) ∧ Hid (OB wx w.heap.size 5 (.slice (some ⟨gl, 0, none⟩) n n) n (plB n x k)))
 case atStart => exact ⟨0, by omega, by omega, by simp, by simp, Still.refl _ _, O5⟩
 case round =>
  clear O5
  obtain ⟨k, rfl, hk, rfl, rfl, S6, O6⟩ := hrel
  by_cases hkn : k < n
  ·obtain ⟨g, o, cap, he, _, hlt, _, _, hcell, hfz⟩ := O6.out.form (by omega)
   cases he
   have hst := Lib.hid (plB_step n x k hkn)
   have hc := hcell (n - 1 - k) (by omega)
   have hf := hfz (0 + (n - 1 - k))
   have hset := fun y (hy : y < 256) => Lib.hid (O6.out.set (n - 1 - k) (by omega) y hy)
   have hnx : Hid (x / 256 ^ (k + 1) = x / 256 ^ k / 256) := by rw [Hid, Nat.pow_succ, Nat.div_div_eq_div_mul]
   have hxk : x / 256 ^ k < 18446744073709551616 := Nat.lt_of_le_of_lt (Nat.div_le_self _ _) hx
   have e1 : (((n - k : Nat) : Int) - 1) = ((n - 1 - k : Nat) : Int) := by omega
   rw [e1]
   rw [Nat.zero_add] at hc hf
   have SS := Lib.hid (fun y => S6.out.trans (still_setC wr gl (n - 1 - k) y))
   clear hcell hfz O6 S6
   generalize x / 256 ^ k = q at *
   go_wp2_with fail
   go_roundg (n - (k + 1))
   case measure => omega
   case rel =>
    have e2 : (q : Int) % 256 = ((q % 256 : Nat) : Int) := by push_cast; rfl
    rw [e2]
    refine ⟨k + 1, rfl, by omega, congrArg _ (by omega), by rw [hnx.out]; exact congrArg _ (by push_cast; rfl), SS.out _, ?_⟩
    have := (hset (q % 256) (Nat.mod_lt _ (by decide))).out
    rw [Nat.zero_add, hst.out] at this
    exact this
  ·obtain rfl : k = n := by omega
   have e1 : (((k - k : Nat) : Int) - 1) = (-1 : Int) := by omega
   rw [e1]
   have L6 := Lib.hid (L5.out.trans (S6.out.below L5.out.size (by simpa using hg5)))
   have A6 := Lib.hid (A5.out.still S6.out hne.out)
   rw [plB_end] at O6
   have hz6 := L6.out.size
   clear S6 A5 L5
   go_wp2_with (at_builtin; go_must (refine wpList_aps slU8 rfl 36 _ _ rfl w.heap.size (.slice sn len cn) len (bvs l) rfl A6.out.2.2 _ rfl k (bvs (putB k x)) (OB.sb_app Try.underlying36 O6.out.sb) (by omega) hz6 ?_; intro v' w' h1 h2 h3; clear h3; have L7 := Lib.hid (L6.out.trans (Ows.grown L6.out.size (Nat.le_refl _) A6.out.2.2 h2)); replace h1 := Lib.hid (OB.of_app (l := l) (k := putB k x) h1 hll.out (putB_len _ _) hlb.out (putB_byt _ _)); clear h2; obtain ⟨s7, c7, rfl, hc7, hm7⟩ := h1.out.len))
   go_ret
   exact ⟨_, rfl, h1.out, L7.out⟩
end Go.Proofs.Ytcempndfbckcaaa
