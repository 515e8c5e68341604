/- The shelf's contracts at this program (math/bits.Len, strings.Join); slices' nextPowerOfTwo and xorshift.Next (printed by wip/gen/genOfJ.py). No condition. -/
import Derived.Test.YtafhnlnhflehhaaGreatDoorOfI
import Derived.Shelf.Small.Bits
import Derived.Shelf.Strconv.Itoa0
import Derived.Laws.Bits64b
namespace Go.Proofs.YtafhnlnhflehhaaGreatDoor
open Go.Shelf Go.RowKit
def laysLen_ren : Go.Shelf.Ren := ⟨fun | 125 => 65 | 128 => 88 | 129 => 68 | n => n, fun | 46 => 106 | 3 => 3 | 51 => 38 | 53 => 47 | 4 => 4 | 5 => 5 | 9 => 9 | n => n, fun | n => n⟩
theorem laysLen : Go.Proofs.Lays.n125 Tryz.prog laysLen_ren := {
 mixed := by kernel_rfl
 f125 := Tryz.func65.trans (congrArg some (by kernel_rfl))
 f128 := Tryz.func88.trans (congrArg some (by kernel_rfl))
 f129 := Tryz.func68.trans (congrArg some (by kernel_rfl))
 t3 := Tryz.underlying3
 a3 := Tryz.isAgg3
 z3 := Tryz.sizeOf3
 v3 := Tryz.zeroValue3
 t4 := Tryz.underlying4
 a4 := Tryz.isAgg4
 z4 := Tryz.sizeOf4
 v4 := Tryz.zeroValue4
 t5 := Tryz.underlying5
 a5 := Tryz.isAgg5
 z5 := Tryz.sizeOf5
 v5 := Tryz.zeroValue5
 t9 := Tryz.underlying9
 a9 := Tryz.isAgg9
 z9 := Tryz.sizeOf9
 v9 := Tryz.zeroValue9
 t46 := Tryz.underlying106
 a46 := Tryz.isAgg106
 z46 := Tryz.sizeOf106
 v46 := Tryz.zeroValue106
 t51 := Tryz.underlying38
 a51 := Tryz.isAgg38
 z51 := Tryz.sizeOf38
 v51 := Tryz.zeroValue38
 t53 := Tryz.underlying47
 a53 := Tryz.isAgg47
 z53 := Tryz.sizeOf47
 v53 := Tryz.zeroValue47 }
def laysJoin_ren : Go.Shelf.Ren := ⟨fun | 156 => 17 | 165 => 33 | 166 => 34 | 169 => 35 | 240 => 55 | 241 => 56 | 276 => 72 | 277 => 73 | n => n, fun | 31 => 45 | 9 => 9 | 3 => 3 | 4 => 4 | 0 => 0 | 20 => 20 | 72 => 75 | 76 => 79 | 70 => 72 | 37 => 73 | 75 => 78 | 127 => 98 | 164 => 112 | 5 => 5 | 80 => 81 | n => n, fun | n => n⟩
theorem laysJoin : Go.Proofs.Lays.n156 Tryz.prog laysJoin_ren := {
 mixed := by kernel_rfl
 f156 := Tryz.func17.trans (congrArg some (by kernel_rfl))
 f165 := Tryz.func33.trans (congrArg some (by kernel_rfl))
 f166 := Tryz.func34.trans (congrArg some (by kernel_rfl))
 f169 := Tryz.func35.trans (congrArg some (by kernel_rfl))
 f240 := Tryz.func55.trans (congrArg some (by kernel_rfl))
 f241 := Tryz.func56.trans (congrArg some (by kernel_rfl))
 f276 := Tryz.func72.trans (congrArg some (by kernel_rfl))
 f277 := Tryz.func73.trans (congrArg some (by kernel_rfl))
 t0 := Tryz.underlying0
 a0 := Tryz.isAgg0
 z0 := Tryz.sizeOf0
 v0 := Tryz.zeroValue0
 t3 := Tryz.underlying3
 a3 := Tryz.isAgg3
 z3 := Tryz.sizeOf3
 v3 := Tryz.zeroValue3
 t4 := Tryz.underlying4
 a4 := Tryz.isAgg4
 z4 := Tryz.sizeOf4
 v4 := Tryz.zeroValue4
 t9 := Tryz.underlying9
 a9 := Tryz.isAgg9
 z9 := Tryz.sizeOf9
 v9 := Tryz.zeroValue9
 t20 := Tryz.underlying20
 a20 := Tryz.isAgg20
 z20 := Tryz.sizeOf20
 v20 := Tryz.zeroValue20
 t31 := Tryz.underlying45
 a31 := Tryz.isAgg45
 z31 := Tryz.sizeOf45
 v31 := Tryz.zeroValue45
 t37 := Tryz.underlying73
 a37 := Tryz.isAgg73
 z37 := Tryz.sizeOf73
 v37 := Tryz.zeroValue73
 t70 := Tryz.underlying72
 a70 := Tryz.isAgg72
 z70 := Tryz.sizeOf72
 v70 := Tryz.zeroValue72
 t72 := Tryz.underlying75
 a72 := Tryz.isAgg75
 z72 := Tryz.sizeOf75
 v72 := Tryz.zeroValue75
 t75 := Tryz.underlying78
 a75 := Tryz.isAgg78
 z75 := Tryz.sizeOf78
 v75 := Tryz.zeroValue78
 t76 := Tryz.underlying79
 a76 := Tryz.isAgg79
 z76 := Tryz.sizeOf79
 v76 := Tryz.zeroValue79
 t127 := Tryz.underlying98
 a127 := Tryz.isAgg98
 z127 := Tryz.sizeOf98
 v127 := Tryz.zeroValue98
 t164 := Tryz.underlying112
 a164 := Tryz.isAgg112
 z164 := Tryz.sizeOf112
 v164 := Tryz.zeroValue112 }
theorem bl_le (x : Nat) (h0 : 0 < x) (h : x < 2 ^ 64) : 2 ^ Lib.bitLen x ≤ 2 * x := by
 induction x using Nat.strongRecOn with
 | _ x ih =>
  rw [Lib.bitLen_half x (by omega) h, Nat.pow_add]
  by_cases h1 : x / 2 = 0
  ·have : x = 1 := by omega
   subst this
   decide
  ·have := ih (x / 2) (by omega) (by omega) (by omega)
   omega
theorem wrap_pow2 (k : Nat) (hk : k ≤ 62) : IntKind.u64.wrap ((2 : Int) ^ k) = ((2 ^ k : Nat) : Int) := by
 have h : (2 : Nat) ^ k ≤ 2 ^ 62 := Nat.pow_le_pow_right (by decide) hk
 rw [IntKind.wrap_u64, show ((2 : Int) ^ k) = ((2 ^ k : Nat) : Int) by push_cast; rfl]
 generalize (2 : Nat) ^ k = p at h
 omega
set_option maxRecDepth 100000 in
set_option maxHeartbeats 8000000 in
theorem npow_any (n : Nat) (h0 : 0 < n) (hn : n ≤ 1000000) (w : World) :
  Calls Tryz.prog 99 #[.int .i64 (n : Nat)] w fun e w' => ∃ m : Nat, 1 ≤ m ∧ m ≤ 2 * n ∧ e = .returned (.int .u64 (m : Nat)) ∧ w' = w := by
 obtain ⟨k, hk⟩ : ∃ k, Lib.bitLen n = k := ⟨_, rfl⟩
 have hk2 : k ≤ 62 := by rw [← hk]; exact Lib.bitLen_le n 62 (by omega) (by omega)
 have hb : ∀ wx, Calls Tryz.prog 65 #[.int .u64 (n : Nat)] wx fun e w' => e = .returned (.int .i64 (k : Nat)) ∧ w' = wx := fun wx => by
  have h := Any.bits_Len laysLen (n : Int) wx (by omega) (by omega)
  rwa [Int.toNat_natCast, hk] at h
 have hp := wrap_pow2 k hk2
 have hle := bl_le n h0 (by omega)
 rw [hk] at hle
 have h1 : 1 ≤ 2 ^ k := Nat.one_le_two_pow
 obtain ⟨m, hm⟩ : ∃ m : Nat, 2 ^ k = m := ⟨_, rfl⟩
 rw [hm] at hle h1 hp
 go_enter Tryz.func99, Tryz.ntmps99
 go_wp2_with fail
 refine Calls.mono (hb _) ?_
 rintro e w1 ⟨rfl, rfl⟩
 dsimp only
 go_wp2_with fail
 go_ret
 exact ⟨m, h1, hle, rfl, rfl⟩
def XB (w : World) (r X : Nat) : Prop := HpB w r (.cells #[.int .u64 (X : Nat)] 129)
theorem XB.cell {w : World} {s k : Nat} (h : XB w s k) : w.cell? ⟨s, 0, none⟩ = some (.int .u64 (k : Nat)) := (hp_cell h 0).trans rfl
theorem XB.frz {w : World} {s k : Nat} (h : XB w s k) : w.frozen? ⟨s, 0, none⟩ = false := hp_frz h 0
theorem XB.set {w : World} {s k : Nat} (h : XB w s k) (v : Nat) : XB (w.setCell ⟨s, 0, none⟩ (.int .u64 (v : Nat))) s v := hp_set h 0 _
theorem XB.st {w w' : World} {s k : Nat} (h : XB w s k) {S : List Nat} (hs : Still S w w') (hg : s ∉ S) : XB w' s k := HpB.st h hs hg
theorem XB.bw {w w' : World} {s k : Nat} (h : XB w s k) (hb : BW w w') : XB w' s k := h.st (hb.still []) (by simp)
def XorR (w w' : World) (r : Nat) (e : Ending) : Prop := ∃ Y : Nat, Y < 18446744073709551616 ∧ XB w' r Y ∧ e = .returned (.int .u64 (Y : Nat)) ∧ Still [r] w w'
set_option maxRecDepth 100000 in
set_option maxHeartbeats 8000000 in
theorem xor_any (r X : Nat) (hX : X < 18446744073709551616) (w : World) (h : XB w r X) :
  Calls Tryz.prog 100 #[.pointer (some ⟨r, 0, none⟩)] w fun e w' => XorR w w' r e := by
 obtain ⟨A, hA⟩ : ∃ A : Nat, A = X ^^^ (X * 8192 % 18446744073709551616) := ⟨_, rfl⟩
 obtain ⟨B, hB⟩ : ∃ B : Nat, B = A ^^^ (A / 128) := ⟨_, rfl⟩
 obtain ⟨C, hC⟩ : ∃ C : Nat, C = B ^^^ (B * 131072 % 18446744073709551616) := ⟨_, rfl⟩
 have lA : A < 18446744073709551616 := by rw [hA]; exact Nat.xor_lt_two_pow (n := 64) (by omega) (by omega)
 have lB : B < 18446744073709551616 := by rw [hB]; exact Nat.xor_lt_two_pow (n := 64) (by omega) (by omega)
 have lC : C < 18446744073709551616 := by rw [hC]; exact Nat.xor_lt_two_pow (n := 64) (by omega) (by omega)
 have e1 : bits .xor .u64 (X : Int) (IntKind.u64.wrap ((X : Int) * 8192)) = (A : Int) := by
  rw [IntKind.wrap_u64, show ((X : Int) * 8192 % 18446744073709551616) = ((X * 8192 % 18446744073709551616 : Nat) : Int) by omega, bits_xor_u64_nat _ _ hX (by omega), hA]
 have e2 : bits .xor .u64 (A : Int) ((A : Int) / 128) = (B : Int) := by
  rw [show ((A : Int) / 128) = ((A / 128 : Nat) : Int) by omega, bits_xor_u64_nat _ _ lA (by omega), hB]
 have e3 : bits .xor .u64 (B : Int) (IntKind.u64.wrap ((B : Int) * 131072)) = (C : Int) := by
  rw [IntKind.wrap_u64, show ((B : Int) * 131072 % 18446744073709551616) = ((B * 131072 % 18446744073709551616 : Nat) : Int) by omega, bits_xor_u64_nat _ _ lB (by omega), hC]
 clear hA hB hC
 have P := Lib.hid h
 have T := Lib.hid (Still.refl [r] w)
 clear h
 go_enter Tryz.func100, Tryz.ntmps100
 go_upto_region 1 with (fail)
 have z0 := P.out.cell
 have mi : ∀ y : LaterS [] w, _ := fun y => y.bw.cell z0
 clear z0
 refine wp_region_gg ([r]) [] [9] (by kernel_rfl) ?_
 refine hoist [] [] (a1 := ?_) 0 rfl (by kernel_rfl) (.inl ⟨rfl, rfl⟩) rfl rfl rfl (fun x K hK => ?_) ?_
 rotate_left
 ·go_big_quiet_op
  exact hK
 refine hoist [] [] (a1 := ?_) 1 rfl (by kernel_rfl) (.inl ⟨rfl, rfl⟩) rfl rfl rfl (fun x K hK => ?_) ?_
 rotate_left
 ·go_big_quiet_op
  exact hK
 refine hoist [] [] (a1 := ?_) 2 rfl (by kernel_rfl) (.inl ⟨rfl, rfl⟩) rfl rfl rfl (fun x K hK => ?_) ?_
 rotate_left
 ·go_big_quiet_op
  exact hK
 refine hoist [] [] (a1 := ?_) 3 rfl (by kernel_rfl) (.inl ⟨rfl, rfl⟩) rfl rfl rfl (fun x K hK => ?_) ?_
 rotate_left
 ·go_big_quiet_op
  exact hK
 refine hoist [] [] (a1 := ?_) 4 rfl (by kernel_rfl) (.inl ⟨rfl, rfl⟩) rfl rfl rfl (fun x K hK => ?_) ?_
 rotate_left
 ·go_big_quiet_op
  exact hK
 refine hoist [] [] (a1 := ?_) 5 rfl (by kernel_rfl) (.inl ⟨rfl, rfl⟩) rfl rfl rfl (fun x K hK => ?_) ?_
 rotate_left
 ·go_big_quiet_op
  exact hK
 refine hoist [] [] (a1 := ?_) 6 rfl (by kernel_rfl) (.inl ⟨rfl, rfl⟩) rfl rfl rfl (fun x K hK => ?_) ?_
 rotate_left
 ·go_big_quiet_op
  exact hK
 refine hoist [] [] (a1 := ?_) 7 rfl (by kernel_rfl) (.inl ⟨rfl, rfl⟩) rfl rfl rfl (fun x K hK => ?_) ?_
 rotate_left
 ·go_big_quiet_op
  exact hK
 refine hoist [] [] (a1 := ?_) 8 rfl (by kernel_rfl) (.inl ⟨rfl, rfl⟩) rfl rfl rfl (fun x K hK => ?_) ?_
 rotate_left
 ·go_big_quiet_op
  exact hK
 refine tail 9 rfl (by kernel_rfl) rfl (fun xr => ?_)
 simp only [List.drop_succ_cons, List.drop_zero]
 have B1 := Lib.hid (P.out.bw xr.bw)
 replace T := Lib.hid (T.out.trans (xr.bw.still [r]))
 clear P mi
 generalize xr.now = wq at *
 clear xr
 have zj := B1.out.cell
 have fj := B1.out.frz
 replace T := Lib.hid (T.out.trans (still_sc wq r 0 (.int .u64 (A : Nat))))
 have P := Lib.hid (B1.out.set A)
 go_upto_region 2 with (fail)
 clear zj fj B1
 generalize wq.setCell _ _ = w1 at *
 have z0 := P.out.cell
 have mi : ∀ y : LaterS [] w1, _ := fun y => y.bw.cell z0
 clear z0
 refine wp_region_gg ([r]) [] [9] (by kernel_rfl) ?_
 refine hoist [] [] (a1 := ?_) 0 rfl (by kernel_rfl) (.inl ⟨rfl, rfl⟩) rfl rfl rfl (fun x K hK => ?_) ?_
 rotate_left
 ·go_big_quiet_op
  exact hK
 refine hoist [] [] (a1 := ?_) 1 rfl (by kernel_rfl) (.inl ⟨rfl, rfl⟩) rfl rfl rfl (fun x K hK => ?_) ?_
 rotate_left
 ·go_big_quiet_op
  exact hK
 refine hoist [] [] (a1 := ?_) 2 rfl (by kernel_rfl) (.inl ⟨rfl, rfl⟩) rfl rfl rfl (fun x K hK => ?_) ?_
 rotate_left
 ·go_big_quiet_op
  exact hK
 refine hoist [] [] (a1 := ?_) 3 rfl (by kernel_rfl) (.inl ⟨rfl, rfl⟩) rfl rfl rfl (fun x K hK => ?_) ?_
 rotate_left
 ·go_big_quiet_op
  exact hK
 refine hoist [] [] (a1 := ?_) 4 rfl (by kernel_rfl) (.inl ⟨rfl, rfl⟩) rfl rfl rfl (fun x K hK => ?_) ?_
 rotate_left
 ·go_big_quiet_op
  exact hK
 refine hoist [] [] (a1 := ?_) 5 rfl (by kernel_rfl) (.inl ⟨rfl, rfl⟩) rfl rfl rfl (fun x K hK => ?_) ?_
 rotate_left
 ·go_big_quiet_op
  exact hK
 refine hoist [] [] (a1 := ?_) 6 rfl (by kernel_rfl) (.inl ⟨rfl, rfl⟩) rfl rfl rfl (fun x K hK => ?_) ?_
 rotate_left
 ·go_big_quiet_op
  exact hK
 refine hoist [] [] (a1 := ?_) 7 rfl (by kernel_rfl) (.inl ⟨rfl, rfl⟩) rfl rfl rfl (fun x K hK => ?_) ?_
 rotate_left
 ·go_big_quiet_op
  exact hK
 refine hoist [] [] (a1 := ?_) 8 rfl (by kernel_rfl) (.inl ⟨rfl, rfl⟩) rfl rfl rfl (fun x K hK => ?_) ?_
 rotate_left
 ·go_big_quiet_op
  exact hK
 refine tail 9 rfl (by kernel_rfl) rfl (fun xr => ?_)
 simp only [List.drop_succ_cons, List.drop_zero]
 have B1 := Lib.hid (P.out.bw xr.bw)
 replace T := Lib.hid (T.out.trans (xr.bw.still [r]))
 clear P mi
 generalize xr.now = wq at *
 clear xr
 have zj := B1.out.cell
 have fj := B1.out.frz
 replace T := Lib.hid (T.out.trans (still_sc wq r 0 (.int .u64 (B : Nat))))
 have P := Lib.hid (B1.out.set B)
 go_upto_region 3 with (fail)
 clear zj fj B1
 generalize wq.setCell _ _ = w2 at *
 have z0 := P.out.cell
 have mi : ∀ y : LaterS [] w2, _ := fun y => y.bw.cell z0
 clear z0
 refine wp_region_gg ([r]) [] [9] (by kernel_rfl) ?_
 refine hoist [] [] (a1 := ?_) 0 rfl (by kernel_rfl) (.inl ⟨rfl, rfl⟩) rfl rfl rfl (fun x K hK => ?_) ?_
 rotate_left
 ·go_big_quiet_op
  exact hK
 refine hoist [] [] (a1 := ?_) 1 rfl (by kernel_rfl) (.inl ⟨rfl, rfl⟩) rfl rfl rfl (fun x K hK => ?_) ?_
 rotate_left
 ·go_big_quiet_op
  exact hK
 refine hoist [] [] (a1 := ?_) 2 rfl (by kernel_rfl) (.inl ⟨rfl, rfl⟩) rfl rfl rfl (fun x K hK => ?_) ?_
 rotate_left
 ·go_big_quiet_op
  exact hK
 refine hoist [] [] (a1 := ?_) 3 rfl (by kernel_rfl) (.inl ⟨rfl, rfl⟩) rfl rfl rfl (fun x K hK => ?_) ?_
 rotate_left
 ·go_big_quiet_op
  exact hK
 refine hoist [] [] (a1 := ?_) 4 rfl (by kernel_rfl) (.inl ⟨rfl, rfl⟩) rfl rfl rfl (fun x K hK => ?_) ?_
 rotate_left
 ·go_big_quiet_op
  exact hK
 refine hoist [] [] (a1 := ?_) 5 rfl (by kernel_rfl) (.inl ⟨rfl, rfl⟩) rfl rfl rfl (fun x K hK => ?_) ?_
 rotate_left
 ·go_big_quiet_op
  exact hK
 refine hoist [] [] (a1 := ?_) 6 rfl (by kernel_rfl) (.inl ⟨rfl, rfl⟩) rfl rfl rfl (fun x K hK => ?_) ?_
 rotate_left
 ·go_big_quiet_op
  exact hK
 refine hoist [] [] (a1 := ?_) 7 rfl (by kernel_rfl) (.inl ⟨rfl, rfl⟩) rfl rfl rfl (fun x K hK => ?_) ?_
 rotate_left
 ·go_big_quiet_op
  exact hK
 refine hoist [] [] (a1 := ?_) 8 rfl (by kernel_rfl) (.inl ⟨rfl, rfl⟩) rfl rfl rfl (fun x K hK => ?_) ?_
 rotate_left
 ·go_big_quiet_op
  exact hK
 refine tail 9 rfl (by kernel_rfl) rfl (fun xr => ?_)
 simp only [List.drop_succ_cons, List.drop_zero]
 have B1 := Lib.hid (P.out.bw xr.bw)
 replace T := Lib.hid (T.out.trans (xr.bw.still [r]))
 clear P mi
 generalize xr.now = wq at *
 clear xr
 have zj := B1.out.cell
 have fj := B1.out.frz
 replace T := Lib.hid (T.out.trans (still_sc wq r 0 (.int .u64 (C : Nat))))
 have P := Lib.hid (B1.out.set C)
 go_upto_region 4 with (fail)
 clear zj fj B1
 generalize wq.setCell _ _ = w3 at *
 have z0 := P.out.cell
 go_wp2_with fail
 go_ret
 exact ⟨C, lC, P.out, rfl, T.out⟩
end Go.Proofs.YtafhnlnhflehhaaGreatDoor
