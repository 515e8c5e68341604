/- srtp: New, Peek, what a way has used. No condition but the sizes'. window: Mark. No condition but the sizes'. srtp: the likely index of a packet, and whether it may be taken in. No condition but the sizes'. srtp: may bytes be taken in? No condition but the sizes'. -/
import Derived.Test.YtikmhlbpefednaaGreatGS1
import Derived.Test.YtikmhlbpefednaaGreatGKy
import Derived.Test.YtikmhlbpefednaaGreatStp
import Derived.Test.YtikmhlbpefednaaGreatGTb
namespace Go.Proofs.YtikmhlbpefednaaGreat
open Go.RowKit
theorem foldl_ivA (K : List Nat) (B : Array Value) (hK : K.length = 50) : (ivA .u8 K).zipIdx.foldl (fun cs (c, j) => cs.setIfInBounds (0 + j) c) (ivA .u8 (zeros 50) ++ B) = ivA .u8 K ++ B := by
 have f : ∀ (V z : Array Value) (off : Nat), V.zipIdx.foldl (fun cs (c, j) => cs.setIfInBounds (off + j) c) z = (V.toList.zipIdx 0).foldl (fun cs (x : Value × Nat) => cs.setIfInBounds (off + x.2) x.1) z := fun V z off => by
  rw [← Array.foldl_toList, Array.toList_zipIdx]
 rw [f]
 obtain ⟨g1, g2⟩ := Great.foldl_set 0 (ivA .u8 K).toList 0 (ivA .u8 (zeros 50) ++ B)
 refine Array.ext_getElem? fun k => ?_
 rw [g2 k]
 have hs : (ivA .u8 K).toList.length = 50 := by rw [Array.length_toList, ivA_size, hK]
 have hz : (ivA .u8 (zeros 50) ++ B).size = 50 + B.size := by rw [Array.size_append, ivA_size, zeros_len]
 rw [hs, hz]
 by_cases hk : k < 50
 ·rw [if_pos (by omega), Array.getElem?_append_left (by rw [ivA_size, hK]; exact hk), Array.getElem?_toList]
  congr 1
 ·rw [if_neg (by omega), Array.getElem?_append_right (by rw [ivA_size, zeros_len]; omega), Array.getElem?_append_right (by rw [ivA_size, hK]; omega), ivA_size, ivA_size, zeros_len, hK]
theorem strm_byl (W : List Nat) (x n : Nat) (hW : Byt W) : ByL (strm W x n) := by
 intro y hy
 obtain ⟨i, _, rfl⟩ := List.mem_map.1 hy
 exact blockN_byt hW (putB_byt' 16 (x + i / 16)) (i % 16)
theorem drv_byl (key salt : List Nat) (lb n : Nat) (hk : ByL key) : ByL (drv key salt lb n) := strm_byl _ _ _ (wordsN_byt key (byt_of hk))
theorem keysN_byl (key salt : List Nat) (f : Nat) (hk : ByL key) : ByL (keysN key salt f) := by
 unfold keysN
 exact (drv_byl key salt f 16 hk).append ((drv_byl key salt (f + 1) 20 hk).append (drv_byl key salt (f + 2) 14 hk))
end Go.Proofs.YtikmhlbpefednaaGreat

namespace Go.Proofs.YtikmhlbpefednaaGreat
open Go.RowKit
theorem or64 (b j : Nat) (hb : b < 18446744073709551616) (hj : j < 64) : bits .or .u64 (b : Int) (IntKind.u64.wrap (2 ^ j)) = ((b ||| 2 ^ j : Nat) : Int) := by
 have h1 : 2 ^ j < 18446744073709551616 := Nat.pow_lt_pow_right (by decide) hj
 have e : IntKind.u64.wrap ((2 : Int) ^ j) = ((2 ^ j : Nat) : Int) := by
  rw [show (2 : Int) ^ j = ((2 ^ j : Nat) : Int) by push_cast; rfl]
  generalize 2 ^ j = y at *
  exact IntWalk.u64_in _ (by omega)
 rw [e]
 exact u64_or_nat b (2 ^ j) hb h1
theorem sh64 (b j : Nat) : bits .or .u64 (IntKind.u64.wrap ((b : Int) * 2 ^ min j 64)) 1 = (((b * 2 ^ j) % 18446744073709551616 ||| 1 : Nat) : Int) := by
 have e1 : (b * 2 ^ min j 64) % 18446744073709551616 = (b * 2 ^ j) % 18446744073709551616 := by
  by_cases h : j ≤ 64
  ·rw [Nat.min_eq_left h]
  ·obtain ⟨k, rfl⟩ : ∃ k, j = 64 + k := ⟨j - 64, by omega⟩
   rw [Nat.min_eq_right (by omega), Nat.pow_add, show b * (2 ^ 64 * 2 ^ k) = 18446744073709551616 * (b * 2 ^ k) by rw [show (2 : Nat) ^ 64 = 18446744073709551616 from rfl, Nat.mul_left_comm], Nat.mul_mod_right, show b * 2 ^ 64 = 18446744073709551616 * b by rw [show (2 : Nat) ^ 64 = 18446744073709551616 from rfl, Nat.mul_comm], Nat.mul_mod_right]
 have e2 : ((b : Int) * 2 ^ min j 64) = ((b * 2 ^ min j 64 : Nat) : Int) := by push_cast; rfl
 have e3 : IntKind.u64.wrap ((b : Int) * 2 ^ min j 64) = (((b * 2 ^ j) % 18446744073709551616 : Nat) : Int) := by
  rw [e2, ← e1]
  generalize b * 2 ^ min j 64 = y
  simp [IntKind.wrap, IntKind.bits, IntKind.signed]
 rw [e3]
 exact u64_or_nat _ 1 (Nat.mod_lt _ (by decide)) (by decide)
set_option maxRecDepth 100000 in
set_option maxHeartbeats 8000000 in
theorem mark1_ok (g1 g2 p nx bs i : Nat) (hn : nx ≤ 4611686018427387904) (hb : bs < 18446744073709551616) (hi : i ≤ 2305843009213693952) (hf : wFresh nx bs i = true) (w : World) (h1 : HpB w g1 (.cells #[.pointer (some ⟨p, 0, none⟩)] 144)) (h2 : HpB w g2 (.cells #[.int .i64 (i : Nat)] 2)) (h : WinV w p nx bs) :
  Calls Tryz.prog 79 #[.pointer (some ⟨g1, 0, none⟩), .pointer (some ⟨g2, 0, none⟩)] w fun e w' => e = .returned (.tuple #[]) ∧ WinV w' p (wMark nx bs i).1 (wMark nx bs i).2 ∧ Still [p] w w' := by
 have cB := Lib.hid (wbelow_ok p nx bs i hn (by omega) w h)
 have a0 := (hp_cell h1 0).trans (show _ = some (.pointer (some ⟨p, 0, none⟩)) from rfl)
 have a1 := (hp_cell h2 0).trans (show _ = some (.int .i64 (i : Nat)) from rfl)
 have z0 := (hp_cell h 0).trans (show _ = some (.int .i64 (nx : Nat)) from rfl)
 have z1 := (hp_cell h 1).trans (show _ = some (.int .u64 (bs : Nat)) from rfl)
 have f0 := hp_frz h 0
 have f1 := hp_frz h 1
 have hH := Lib.hid h
 have hne1 := hp_ne h1 h (by decide)
 have hne2 := hp_ne h2 h (by decide)
 clear h
 by_cases hlt : i < nx
 ·obtain ⟨j, hj⟩ : ∃ j : Nat, (nx : Int) - 1 - (i : Int) = (j : Nat) := ⟨nx - 1 - i, by omega⟩
  have hj64 : j < 64 := by
   unfold wFresh at hf
   rw [hj] at hf
   simp only [Bool.and_eq_true, Bool.or_eq_true, decide_eq_true_eq] at hf
   omega
  rw [hj] at cB
  have hM : wMark nx bs i = (nx, bs ||| 2 ^ j) := by
   unfold wMark
   rw [if_pos hlt, show nx - 1 - i = j by omega]
  have hor := or64 bs j hb hj64
  have d1 : decide ((0 : Int) ≤ (j : Int)) = true := by simp
  rw [hM]
  generalize bs ||| 2 ^ j = nb at *
  have l0 : ∀ y : LaterS [] w, y.now.cell? _ = _ := fun y => y.bw.cell a0
  have l1 : ∀ y : LaterS [] w, y.now.cell? _ = _ := fun y => y.bw.cell z1
  clear hj hf hM hlt
  go_enter Tryz.func79, Tryz.ntmps79
  go_wp2_with fail
  refine Calls.mono cB.out ?_
  rintro e w' ⟨rfl, rfl⟩
  dsimp only
  go_upto_region 2 with (fail)
  clear a0 a1 z0 z1 f0 f1
  refine wp_region_gg [] [] [9] (by kernel_rfl) ?_
  refine hoist [] [] (a1 := ?_) 0 rfl (by kernel_rfl) (.inl ⟨rfl, rfl⟩) rfl rfl rfl (fun x K hK => ?_) ?_
  rotate_left
  ·go_big_quiet_op
   exact hK
  refine hoist [] [] (a1 := ?_) 1 rfl (by kernel_rfl) (.inl ⟨rfl, rfl⟩) rfl rfl rfl (fun x K hK => ?_) ?_
  rotate_left
  ·go_big_quiet_op
   exact hK
  refine hoist [] [] (a1 := ?_) 2 rfl (by kernel_rfl) (.inl ⟨rfl, rfl⟩) rfl rfl rfl (fun x K hK => ?_) ?_
  rotate_left
  ·go_big_quiet_op
   exact hK
  refine hoist [] [] (a1 := ?_) 3 rfl (by kernel_rfl) (.inl ⟨rfl, rfl⟩) rfl rfl rfl (fun x K hK => ?_) ?_
  rotate_left
  ·go_big_quiet_op
   exact hK
  refine hoist [] [] (a1 := ?_) 4 rfl (by kernel_rfl) (.inl ⟨rfl, rfl⟩) rfl rfl rfl (fun x K hK => ?_) ?_
  rotate_left
  ·go_big_quiet_op
   exact hK
  refine hoist [] [] (a1 := ?_) 5 rfl (by kernel_rfl) (.inl ⟨rfl, rfl⟩) rfl rfl rfl (fun x K hK => ?_) ?_
  rotate_left
  ·go_big_quiet_op
   exact hK
  refine hoist [] [] (a1 := ?_) 6 rfl (by kernel_rfl) (.inl ⟨rfl, rfl⟩) rfl rfl rfl (fun x K hK => ?_) ?_
  rotate_left
  ·go_big_quiet_op
   exact hK
  refine hoist [] [] (a1 := ?_) 7 rfl (by kernel_rfl) (.inl ⟨rfl, rfl⟩) rfl rfl rfl (fun x K hK => ?_) ?_
  rotate_left
  ·go_big_quiet_op
   exact hK
  refine hoist [] [] (a1 := ?_) 8 rfl (by kernel_rfl) (.inl ⟨rfl, rfl⟩) rfl rfl rfl (fun x K hK => ?_) ?_
  rotate_left
  ·go_big_quiet_op
   exact hK
  refine tail 9 rfl (by kernel_rfl) rfl (fun xr => ?_)
  simp only [List.drop_succ_cons, List.drop_zero]
  have hX := hH.out.bw xr.bw
  have f1 := hp_frz hX 1
  have z1 := (hp_cell hX 1).trans (show _ = some (.int .u64 (bs : Nat)) from rfl)
  have T := (xr.bw.still [p]).trans (still_sc xr.now p 1 (.int .u64 (nb : Nat)))
  have hY : WinV (xr.now.setCell ⟨p, 1, none⟩ (.int .u64 (nb : Nat))) p nx nb := hp_set hX 1 _
  replace hX := Lib.hid hX
  replace T := Lib.hid T
  replace hY := Lib.hid hY
  clear l0 l1
  go_wp2_with fail
  exact bodyPost_ret (results_none rfl _ _ _) rfl ⟨rfl, hY.out, T.out⟩
 ·obtain ⟨j, hj⟩ : ∃ j : Nat, (nx : Int) - 1 - (i : Int) = -(j : Int) ∧ j = i + 1 - nx := ⟨i + 1 - nx, by omega, rfl⟩
  rw [hj.1] at cB
  have hj1 : 1 ≤ j := by omega
  have hM : wMark nx bs i = (i + 1, (bs * 2 ^ j) % 18446744073709551616 ||| 1) := by
   unfold wMark
   rw [if_neg hlt, hj.2]
  have d1 : decide ((0 : Int) ≤ -(j : Int)) = false := by simp; omega
  have hjm : (j : Int) ≤ 4611686018427387904 := by omega
  have hsh := sh64 bs j
  rw [hM]
  generalize (bs * 2 ^ j) % 18446744073709551616 ||| 1 = nb at *
  have l0 : ∀ y : LaterS [] w, y.now.cell? _ = _ := fun y => y.bw.cell a0
  have l1 : ∀ y : LaterS [] w, y.now.cell? _ = _ := fun y => y.bw.cell z1
  have l2 : ∀ y : LaterS [] w, y.now.cell? _ = _ := fun y => y.bw.cell a1
  clear hj hf hM hlt
  go_enter Tryz.func79, Tryz.ntmps79
  go_wp2_with fail
  refine Calls.mono cB.out ?_
  rintro e w' ⟨rfl, rfl⟩
  dsimp only
  go_upto_region 3 with (fail)
  clear a0 a1 z0 z1 f0 f1
  refine wp_region_gg [] [] [11] (by kernel_rfl) ?_
  refine hoist [] [] (a1 := ?_) 0 rfl (by kernel_rfl) (.inl ⟨rfl, rfl⟩) rfl rfl rfl (fun x K hK => ?_) ?_
  rotate_left
  ·go_big_quiet_op
   exact hK
  refine hoist [] [] (a1 := ?_) 1 rfl (by kernel_rfl) (.inl ⟨rfl, rfl⟩) rfl rfl rfl (fun x K hK => ?_) ?_
  rotate_left
  ·go_big_quiet_op
   exact hK
  refine hoist [] [] (a1 := ?_) 2 rfl (by kernel_rfl) (.inl ⟨rfl, rfl⟩) rfl rfl rfl (fun x K hK => ?_) ?_
  rotate_left
  ·go_big_quiet_op
   exact hK
  refine hoist [] [] (a1 := ?_) 3 rfl (by kernel_rfl) (.inl ⟨rfl, rfl⟩) rfl rfl rfl (fun x K hK => ?_) ?_
  rotate_left
  ·go_big_quiet_op
   exact hK
  refine hoist [] [] (a1 := ?_) 4 rfl (by kernel_rfl) (.inl ⟨rfl, rfl⟩) rfl rfl rfl (fun x K hK => ?_) ?_
  rotate_left
  ·go_big_quiet_op
   exact hK
  refine hoist [] [] (a1 := ?_) 5 rfl (by kernel_rfl) (.inl ⟨rfl, rfl⟩) rfl rfl rfl (fun x K hK => ?_) ?_
  rotate_left
  ·go_big_quiet_op
   exact hK
  refine hoist [] [] (a1 := ?_) 6 rfl (by kernel_rfl) (.inl ⟨rfl, rfl⟩) rfl rfl rfl (fun x K hK => ?_) ?_
  rotate_left
  ·go_big_quiet_op
   exact hK
  refine hoist [] [] (a1 := ?_) 7 rfl (by kernel_rfl) (.inl ⟨rfl, rfl⟩) rfl rfl rfl (fun x K hK => ?_) ?_
  rotate_left
  ·go_big_quiet_op
   exact hK
  refine hoist [] [] (a1 := ?_) 8 rfl (by kernel_rfl) (.inl ⟨rfl, rfl⟩) rfl rfl rfl (fun x K hK => ?_) ?_
  rotate_left
  ·go_big_quiet_op
   exact hK
  refine hoist [] [] (a1 := ?_) 9 rfl (by kernel_rfl) (.inl ⟨rfl, rfl⟩) rfl rfl rfl (fun x K hK => ?_) ?_
  rotate_left
  ·go_big_quiet_op
   exact hK
  refine hoist [] [] (a1 := ?_) 10 rfl (by kernel_rfl) (.inl ⟨rfl, rfl⟩) rfl rfl rfl (fun x K hK => ?_) ?_
  rotate_left
  ·go_big_quiet_op
   exact hK
  refine tail 11 rfl (by kernel_rfl) rfl (fun xr => ?_)
  simp only [List.drop_succ_cons, List.drop_zero]
  have hX := hH.out.bw xr.bw
  have b0 := (hp_cell (h1.bw xr.bw) 0).trans (show _ = some (.pointer (some ⟨p, 0, none⟩)) from rfl)
  have b1 := (hp_cell (h2.bw xr.bw) 0).trans (show _ = some (.int .i64 (i : Nat)) from rfl)
  have f0 := hp_frz hX 0
  have f1 := hp_frz hX 1
  have z0 := (hp_cell hX 0).trans (show _ = some (.int .i64 (nx : Nat)) from rfl)
  have z1 := (hp_cell hX 1).trans (show _ = some (.int .u64 (bs : Nat)) from rfl)
  have T := ((xr.bw.still [p]).trans (still_sc xr.now p 1 (.int .u64 (nb : Nat)))).trans (still_sc _ p 0 (.int .i64 ((i : Int) + 1)))
  have hY : WinV ((xr.now.setCell ⟨p, 1, none⟩ (.int .u64 (nb : Nat))).setCell ⟨p, 0, none⟩ (.int .i64 ((i : Int) + 1))) p (i + 1) nb := hp_set (hp_set hX 1 _) 0 _
  replace hX := Lib.hid hX
  replace T := Lib.hid T
  replace hY := Lib.hid hY
  clear l0 l1 l2
  have hi' : (i : Int) ≤ 2305843009213693952 := by omega
  go_wp2_with fail
  go_end0
  exact ⟨rfl, hY.out, T.out⟩
set_option maxRecDepth 100000 in
set_option maxHeartbeats 8000000 in
theorem mark_ok (p nx bs i : Nat) (hn : nx ≤ 4611686018427387904) (hb : bs < 18446744073709551616) (hi : i ≤ 2305843009213693952) (hf : wFresh nx bs i = true) (w : World) (h : WinV w p nx bs) :
  Calls Tryz.prog 41 #[.pointer (some ⟨p, 0, none⟩), .int .i64 (i : Nat)] w fun e w' => e = .returned (.int .i64 0) ∧ WinV w' p (wMark nx bs i).1 (wMark nx bs i).2 ∧ Still [p] w w' := by
 have hmf : ∀ (fn : Fn) (first cap : Array Value) (w : World), (Instr.makeFunc fn first cap).run Tryz.prog w = .ok (.func fn first cap) w := fun _ _ _ _ => rfl
 have B1 : BW w (w.alloc (.cells #[.pointer (some ⟨p, 0, none⟩)] 144)) := (BW.refl w).alloc
 have B2 : BW (w.alloc (.cells #[.pointer (some ⟨p, 0, none⟩)] 144)) ((w.alloc (.cells #[.pointer (some ⟨p, 0, none⟩)] 144)).alloc (.cells #[.int .i64 (i : Nat)] 2)) := (BW.refl _).alloc
 have P := Lib.hid ((HpB.new w (.cells #[.pointer (some ⟨p, 0, none⟩)] 144)).bw B2)
 have Q := Lib.hid (show HpB _ (w.heap.size + 1) _ from hp_new (w.alloc (.cells #[.pointer (some ⟨p, 0, none⟩)] 144)) (.cells #[.int .i64 (i : Nat)] 2) (w.heap.size + 1) (by simp))
 have B := Lib.hid (B1.trans B2)
 have hH := Lib.hid (h.bw B.out)
 clear B1 B2 h
 go_enter Tryz.func41, Tryz.ntmps41
 go_upto_region 1 with (fail)
 generalize (w.alloc _).alloc _ = w1 at *
 have a0 := (hp_cell P.out 0).trans (show _ = some (.pointer (some ⟨p, 0, none⟩)) from rfl)
 have a1 := (hp_cell Q.out 0).trans (show _ = some (.int .i64 (i : Nat)) from rfl)
 have cF := Lib.hid (wfresh_ok p nx bs (i : Nat) hn hb (by omega) w1 hH.out)
 rw [hf] at cF
 have cM := Lib.hid (mark1_ok w.heap.size (w.heap.size + 1) p nx bs i hn hb hi hf w1 P.out Q.out hH.out)
 have cw : Hid (Calls Tryz.prog 78 #[.func (.func 77) #[.pointer (some ⟨p, 0, none⟩)] #[], .int .i64 (i : Nat), .func (.func 79) #[] #[.pointer (some ⟨w.heap.size, 0, none⟩), .pointer (some ⟨w.heap.size + 1, 0, none⟩)]] w1 fun e w' => e = .returned (.int .i64 0) ∧ WinV w' p (wMark nx bs i).1 (wMark nx bs i).2 ∧ Still [p] w1 w') := by
  show Calls _ _ _ _ _
  clear a0 a1 P Q hH hf
  go_enter Tryz.func78, Tryz.ntmps78
  go_wp2_with fail
  refine Calls.mono cF.out ?_
  rintro e w' ⟨rfl, rfl⟩
  dsimp only
  go_wp2_with fail
  refine Calls.mono cM.out ?_
  rintro e w2 ⟨rfl, h2, t2⟩
  replace h2 := Lib.hid h2
  replace t2 := Lib.hid t2
  dsimp only
  go_wp2_with fail
  go_ret
  exact ⟨rfl, h2.out, t2.out⟩
 clear cF cM hf
 go_wp2_with fail
 refine Calls.mono cw.out ?_
 rintro e w2 ⟨rfl, h2, t2⟩
 replace h2 := Lib.hid h2
 replace t2 := Lib.hid t2
 dsimp only
 go_wp2_with fail
 go_ret
 exact ⟨rfl, h2.out, (B.out.still [p]).trans t2.out⟩
end Go.Proofs.YtikmhlbpefednaaGreat

namespace Go.Proofs.YtikmhlbpefednaaGreat
open Go.RowKit
def getW (M : List (Nat × Nat × Nat)) (s : Nat) : Nat × Nat := ((M.find? fun p => p.1 == s).map (·.2)).getD (0, 0)
def hasW (M : List (Nat × Nat × Nat)) (s : Nat) : Bool := M.any fun p => p.1 == s
structure MOk (M : List (Nat × Nat × Nat)) : Prop where
 nd : (M.map Prod.fst).Nodup
 b : ∀ p ∈ M, p.1 < 4294967296 ∧ p.2.1 ≤ 281474976710657 ∧ p.2.2 < 18446744073709551616
theorem MOk.nil : MOk [] := ⟨by simp, by simp⟩
theorem getW_mem {M : List (Nat × Nat × Nat)} (h : (M.map Prod.fst).Nodup) {s : Nat} {v : Nat × Nat} (hm : (s, v) ∈ M) : getW M s = v ∧ hasW M s = true := by
 constructor
 ·induction M with
  | nil => cases hm
  | cons p M ih =>
   rw [List.map_cons, List.nodup_cons] at h
   unfold getW
   rcases List.mem_cons.1 hm with rfl | hm'
   ·simp
   ·have hne : (p.1 == s) = false := by
     rw [beq_eq_false_iff_ne]
     rintro rfl
     exact h.1 (List.mem_map.2 ⟨_, hm', rfl⟩)
    rw [List.find?_cons, hne]
    exact ih h.2 hm'
 ·exact List.any_eq_true.2 ⟨_, hm, by simp⟩
theorem getW_none {M : List (Nat × Nat × Nat)} {s : Nat} (h : ∀ p ∈ M, p.1 ≠ s) : getW M s = (0, 0) ∧ hasW M s = false := by
 have hf : M.find? (fun p => p.1 == s) = none := List.find?_eq_none.2 fun p hp => by simpa using h p hp
 constructor
 ·unfold getW; rw [hf]; rfl
 ·unfold hasW
  rw [List.any_eq_false]
  intro p hp
  simpa using h p hp
theorem getW_b {M : List (Nat × Nat × Nat)} (h : MOk M) (s : Nat) : (getW M s).1 ≤ 281474976710657 ∧ (getW M s).2 < 18446744073709551616 := by
 unfold getW
 cases hf : M.find? (fun p => p.1 == s) with
 | none => exact ⟨by decide, by decide⟩
 | some p =>
  have := h.b p (List.mem_of_find?_eq_some hf)
  exact ⟨this.2.1, this.2.2⟩
theorem u32Law : Maps.Keyed Tryz.prog 33 := Maps.int_keyed Tryz.underlying33
theorem u32_key (n : Nat) (h : n < 4294967296) : keyOf Tryz.prog 33 (.int .u32 (n : Nat)) = some (.int .u32 (n : Nat)) :=
 Maps.keyOf_int_mk Tryz.underlying33 (by simp [Lit.wf, IntKind.min, IntKind.max, IntKind.signed, IntKind.bits]; omega)
theorem winS_keys {M : List (Nat × Nat × Nat)} (h : MOk M) : ∀ p ∈ winS M, ∃ l, keyOf Tryz.prog 33 p.1 = some l := fun p hp => by
 obtain ⟨q, hq, rfl⟩ := List.mem_map.1 hp
 exact ⟨_, u32_key q.1 (h.b q hq).1⟩
theorem look_w {w : World} {gm : Nat} {M : List (Nat × Nat × Nat)} (h : MapIn w gm (winS M)) (hM : MOk M) (s : Nat) (hs : s < 4294967296) :
  (Instr.lookup 75 (.map (some gm)) (.int .u32 (s : Nat)) true).run Tryz.prog w = .ok (.tuple #[.agg #[.int .i64 ((getW M s).1 : Nat), .int .u64 ((getW M s).2 : Nat)], .bool (hasW M s)]) w := by
 have hz : (zeroValue 93).run Tryz.prog w = .ok (.agg #[.int .i64 0, .int .u64 0]) w := by kernel_rfl
 rcases h.look u32Law Tryz.underlying75 (winS_keys hM) hz (u32_key s hs) with ⟨v, h1, h2⟩ | ⟨h1, h2⟩
 ·obtain ⟨q, hq, he⟩ := List.mem_map.1 h1
  obtain ⟨q1, qv⟩ := q
  simp only [Prod.mk.injEq, Value.int.injEq, true_and] at he
  obtain ⟨he1, rfl⟩ := he
  obtain rfl : q1 = s := by omega
  obtain ⟨e1, e2⟩ := getW_mem hM.nd hq
  rw [h2 true, if_pos rfl, e1, e2]
 ·have hn : ∀ p ∈ M, p.1 ≠ s := fun p hp he => by
   refine h1 (.int .u32 (p.1 : Nat), .agg #[.int .i64 (p.2.1 : Nat), .int .u64 (p.2.2 : Nat)]) (List.mem_map.2 ⟨p, hp, rfl⟩) ?_
   rw [he]
  obtain ⟨e1, e2⟩ := getW_none hn
  rw [h2 true, if_pos rfl, e1, e2]
  rfl
def setW (M : List (Nat × Nat × Nat)) (s : Nat) (v : Nat × Nat) : List (Nat × Nat × Nat) := if hasW M s then M.map (fun p => if p.1 = s then (s, v) else p) else M ++ [(s, v)]
theorem hasW_iff {M : List (Nat × Nat × Nat)} {s : Nat} : hasW M s = true ↔ ∃ p ∈ M, p.1 = s := by
 unfold hasW
 rw [List.any_eq_true]
 simp
theorem upd_w {w : World} {gm : Nat} {M : List (Nat × Nat × Nat)} (h : MapIn w gm (winS M)) (hM : MOk M) (s : Nat) (hs : s < 4294967296) (v : Nat × Nat) :
  ∃ w', (Instr.mapUpdate 75 (.map (some gm)) (.int .u32 (s : Nat)) (.agg #[.int .i64 (v.1 : Nat), .int .u64 (v.2 : Nat)])).run Tryz.prog w = .ok () w' ∧ MapIn w' gm (winS (setW M s v)) ∧ Still [gm] w w' := by
 by_cases hh : hasW M s = true
 ·obtain ⟨q, hq, hqs⟩ := hasW_iff.1 hh
  obtain ⟨w', i, p, h1, h2, h3, h4, h5⟩ := h.update u32Law Tryz.underlying75 (winS_keys hM) (val := .agg #[.int .i64 (v.1 : Nat), .int .u64 (v.2 : Nat)]) (u32_key s hs) ⟨_, List.mem_map.2 ⟨q, hq, rfl⟩, by rw [hqs]⟩
  refine ⟨w', h1, ?_, h5⟩
  have e : winS (setW M s v) = (winS M).set i (.int .u32 (s : Nat), .agg #[.int .i64 (v.1 : Nat), .int .u64 (v.2 : Nat)]) := by
   unfold setW
   rw [if_pos hh]
   have hi : i < M.length := by
    have := (List.getElem?_eq_some_iff.1 h2).1
    simpa [winS] using this
   have hMi : (M[i]).1 = s := by
    unfold winS at h2
    rw [List.getElem?_map, List.getElem?_eq_getElem hi] at h2
    simp only [Option.map_some, Option.some.injEq] at h2
    rw [← h2] at h3
    simp only [Value.int.injEq, true_and] at h3
    omega
   refine List.ext_getElem? fun j => ?_
   unfold winS
   rw [List.getElem?_map, List.getElem?_map, List.getElem?_set, List.getElem?_map, List.length_map]
   by_cases hij : i = j
   ·subst hij
    rw [if_pos rfl, if_pos hi, List.getElem?_eq_getElem hi]
    simp [hMi]
   ·rw [if_neg hij]
    cases hj : M[j]? with
    | none => rfl
    | some r =>
     have hjl := (List.getElem?_eq_some_iff.1 hj).1
     have hrs : r.1 ≠ s := fun he => by
      refine hij ?_
      have hn := hM.nd
      have e1 : (M.map Prod.fst)[i]'(by simpa using hi) = (M.map Prod.fst)[j]'(by simpa using hjl) := by
       rw [List.getElem_map, List.getElem_map, hMi, ← he, ← (List.getElem?_eq_some_iff.1 hj).2]
      exact (List.getElem_inj hn).1 e1
     simp [hrs]
  rw [e]
  exact h4
 ·have hn : ∀ p ∈ winS M, p.1 ≠ .int .u32 (s : Nat) := fun p hp he => by
   obtain ⟨q, hq, rfl⟩ := List.mem_map.1 hp
   simp only [Value.int.injEq, true_and] at he
   exact hh (hasW_iff.2 ⟨q, hq, by omega⟩)
  obtain ⟨w', h1, h2, h3⟩ := h.insert u32Law Tryz.underlying75 (winS_keys hM) (u32_key s hs) hn (val := .agg #[.int .i64 (v.1 : Nat), .int .u64 (v.2 : Nat)])
  refine ⟨w', h1, ?_, h3⟩
  unfold setW
  rw [if_neg hh]
  have e : winS (M ++ [(s, v)]) = winS M ++ [(.int .u32 (s : Nat), .agg #[.int .i64 (v.1 : Nat), .int .u64 (v.2 : Nat)])] := by simp [winS]
  rw [e]
  exact h2
end Go.Proofs.YtikmhlbpefednaaGreat

namespace Go.Proofs.YtikmhlbpefednaaGreat
open Go.RowKit
end Go.Proofs.YtikmhlbpefednaaGreat
