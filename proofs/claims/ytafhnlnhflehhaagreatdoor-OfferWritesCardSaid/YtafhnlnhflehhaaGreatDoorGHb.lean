/- The reference's cut: a text cut at a byte. No condition but the size's. The reference's number of a word. No condition but the size's. Digits of a number, and d. No condition but the sizes'. -/
import Derived.Test.YtafhnlnhflehhaaGreatDoorGHa
import Derived.Test.YtafhnlnhflehhaaGreatDoorGHi
namespace Go.Proofs.YtafhnlnhflehhaaGreatDoor
open Go.RowKit
theorem ba_get (s : ByteArray) (p : Nat) (h : p < s.size) : s.data.toList[p]'(by rw [← ba_size]; exact h) = s[p]'h := by
 rw [Array.getElem_toList]; rfl
theorem ba_take (s : ByteArray) (p : Nat) (h : p < s.size) : s.data.toList.take (p + 1) = s.data.toList.take p ++ [s[p]'h] := by
 rw [List.take_succ_eq_append_getElem (by rw [← ba_size]; exact h), ba_get s p h]
theorem ba_ext_list (s : ByteArray) (a b : Nat) : (s.extract a b).data.toList = (s.data.toList.take b).drop a := by
 rw [ByteArray.data_extract, Array.toList_extract, List.extract_eq_take_drop, List.drop_take]
theorem bS_ext (s : ByteArray) (a b : Nat) : bS ((s.data.toList.take b).drop a) = s.extract a b := ba_ext (by rw [bS_list, ba_ext_list])
end Go.Proofs.YtafhnlnhflehhaaGreatDoor

namespace Go.Proofs.YtafhnlnhflehhaaGreatDoor
open Go.RowKit
def NumR (S : ByteArray) (e : Ending) : Prop := ∃ v : Int, e = .returned (.int .i64 v) ∧ -1 ≤ v ∧ v < 1000000000 ∧ ∀ n : Nat, n ≤ 1048576 → S.data.toList = Lib.decDigits n → v = n
theorem NumR.no {S : ByteArray} (h : ∀ n : Nat, n ≤ 1048576 → S.data.toList ≠ Lib.decDigits n) : NumR S (.returned (.int .i64 (-1))) := ⟨-1, rfl, by decide, by decide, fun n hn e => absurd e (h n hn)⟩
end Go.Proofs.YtafhnlnhflehhaaGreatDoor

namespace Go.Proofs.YtafhnlnhflehhaaGreatDoor
open Go.RowKit
theorem bstr_one (b : Nat) (hb : b < 256) : (bstr [b]).data.toList = [UInt8.ofNat b] := by
 unfold bstr strOfNums
 simp
set_option maxRecDepth 100000 in
set_option maxHeartbeats 8000000 in
theorem digits_any : ∀ (u : Nat), u ≤ 1048576 → ∀ w : World,
  Calls Tryz.prog 41 #[.int .u64 (u : Nat)] w fun e w' => e = .returned (.string (bS (Lib.decDigits u))) ∧ BW w w' := by
 intro u
 induction u using Nat.strongRecOn with
 | _ u ih =>
  intro hu w
  by_cases h10 : u < 10
  ·have d1 : decide ((u : Int) < 10) = true := by simp; omega
   have BA := Lib.hid ((BW.refl w).alloc (o := .cells #[.int .u8 ((48 + u : Nat) : Int)] 5))
   have hS := conv_sb (SB.new1 w 5 (48 + u) (by omega))
   obtain ⟨q, hq⟩ : ∃ q, bstr [48 + u] = q := ⟨_, rfl⟩
   rw [hq] at hS
   have hr : Hid (q = bS (Lib.decDigits u)) := Lib.hid (ba_ext (by rw [← hq, bstr_one _ (by omega), bS_list, Lib.decDigits, dif_pos h10]))
   clear hq ih
   rw [show ((48 + u : Nat) : Int) = 48 + (u : Int) from by push_cast; rfl] at hS BA
   have hm : (48 + u) % 256 = 48 + u := by omega
   go_enter Tryz.func41, Tryz.ntmps41
   go_wp2_with fail
   go_ret
   exact ⟨by rw [← hr.out]; rfl, BA.out⟩
  ·have d1 : decide ((u : Int) < 10) = false := by simp; omega
   have hv2 : u / 10 ≤ 1048576 := by omega
   have cI := ih (u / 10) (by omega) hv2
   have nl := dD_le (n := u / 10) hv2
   obtain ⟨bd, hbd⟩ : ∃ x, bS (Lib.decDigits (u / 10)) = x := ⟨_, rfl⟩
   rw [hbd] at cI
   have nd : bd.size ≤ 7 := by rw [← hbd, bS_size]; exact nl
   have hm1 : (48 + u % 10) % 256 = 48 + u % 10 := by omega
   obtain ⟨q, hq⟩ : ∃ q, bstr [48 + u % 10] = q := ⟨_, rfl⟩
   have nq : q.size = 1 := by rw [ba_size, ← hq, bstr_one _ (by omega)]; rfl
   have hr : Hid (bd ++ q = bS (Lib.decDigits u)) := Lib.hid (ba_ext (by
    rw [ba_app, ← hq, ← hbd, bstr_one _ (by omega), bS_list, bS_list]
    conv => rhs; rw [Lib.decDigits, dif_neg h10]))
   have a1 : ¬ 9223372036854775807 < bd.size + q.size := by omega
   have hlt : 48 + u % 10 < 256 := by omega
   replace cI := Lib.hid cI
   replace hq := Lib.hid hq
   clear hbd nl ih nd nq
   go_enter Tryz.func41, Tryz.ntmps41
   go_upto_region 3 with (fail)
   have BB := Lib.hid (BW.refl w)
   refine wp_region_gg [] [] [] (by kernel_rfl) ?_
   refine hoist [] [] (a1 := ?_) 0 rfl (by kernel_rfl) (.inl ⟨rfl, rfl⟩) rfl rfl rfl (fun x K hK => ?_) ?_
   rotate_left
   ·go_big_quiet_op
    exact hK
   refine hoist [] [] (a1 := ?_) 1 rfl (by kernel_rfl) (.inl ⟨rfl, rfl⟩) rfl rfl rfl (fun x K hK => ?_) ?_
   rotate_left
   ·go_big_quiet_op
    exact hK
   refine hoist_call [] [] (a1 := ?_) 2 rfl (by kernel_rfl) (.inl ⟨rfl, rfl⟩) rfl rfl rfl (fun x K hK => ?_) ?_
   rotate_left
   ·go_big_quiet_op
    apply Exists.intro
    refine ⟨fun y => ?_, ?_⟩
    ·exact Calls.laterS_of (cI.out y.now)
    ·exact hK
   refine hoist [] [] (a1 := ?_) 3 rfl (by kernel_rfl) (.inl ⟨rfl, rfl⟩) rfl rfl rfl (fun x K hK => ?_) ?_
   rotate_left
   ·go_big_quiet_op
    exact hK
   refine hoist [] [] (a1 := ?_) 4 rfl (by kernel_rfl) (.inl ⟨rfl, rfl⟩) rfl rfl rfl (fun x K hK => ?_) ?_
   rotate_left
   ·go_big_quiet_op
    exact hK
   refine hoist [] [] (a1 := ?_) 5 rfl (by kernel_rfl) (.inl ⟨rfl, rfl⟩) rfl rfl rfl (fun x K hK => ?_) ?_
   rotate_left
   ·go_big_quiet_op
    exact hK
   refine hoist [] [] (a1 := ?_) 6 rfl (by kernel_rfl) (.inl ⟨rfl, rfl⟩) rfl rfl rfl (fun x K hK => ?_) ?_
   rotate_left
   ·go_big_quiet_op
    exact hK
   refine effect 7 rfl (by kernel_rfl) (by kernel_rfl) rfl (fun x7 K hK => ?_)
   go_simp
   refine hK _ _ (Still.of_below ((Below.refl _ _).alloc (Nat.le_refl _) _)) ?_
   have sb7 := SB.new1 x7.now 5 (48 + u % 10) hlt
   have hb := x7.bw.alloc (o := .cells #[.int .u8 ((48 + u % 10 : Nat) : Int)] 5)
   rw [show ((48 + u % 10 : Nat) : Int) = 48 + (u : Int) % 10 from by push_cast; rfl] at sb7 hb
   clear hK K
   replace BB := Lib.hid hb
   clear hb
   generalize x7.now.alloc _ = w7 at *
   generalize x7.now.heap.size = g7 at *
   have mS : ∀ y : LaterS [] w7, (convert 73 9 (.slice (some ⟨g7, 0, none⟩) 1 1)).run Tryz.prog y.now = .ok (.string q) y.now := fun y => by rw [← hq.out]; exact conv_sb (sb7.bw y.bw)
   clear sb7
   try simp only [Act.put, List.setIfInBounds_toArray, List.set_cons_succ, List.set_cons_zero]
   refine hoist [] [] (a1 := ?_) 8 rfl (by kernel_rfl) (.inl ⟨rfl, rfl⟩) rfl rfl rfl (fun x K hK => ?_) ?_
   rotate_left
   ·go_big_quiet_op
    exact hK
   refine hoist [] [] (a1 := ?_) 9 rfl (by kernel_rfl) (.inl ⟨rfl, rfl⟩) rfl rfl rfl (fun x K hK => ?_) ?_
   rotate_left
   ·go_big_quiet_op
    exact hK
   refine hoist [] [] (a1 := ?_) 10 rfl (by kernel_rfl) (.inl ⟨rfl, rfl⟩) rfl rfl rfl (fun x K hK => ?_) ?_
   rotate_left
   ·go_big_quiet_op
    exact hK
   refine done (by kernel_rfl) (fun xr => ?_)
   have B8 := Lib.hid (BB.out.trans xr.bw)
   go_wp2_with fail
   go_ret
   exact ⟨by rw [← hr.out]; rfl, B8.out⟩
set_option maxRecDepth 100000 in
set_option maxHeartbeats 8000000 in
theorem d_any (n : Nat) (hn : n ≤ 1048576) (w : World) :
  Calls Tryz.prog 23 #[.int .i64 (n : Nat)] w fun e w' => e = .returned (.string (bS (Lib.decDigits n))) ∧ BW w w' := by
 have cS := Lib.hid (digits_any n hn w)
 generalize bS (Lib.decDigits n) = L at cS ⊢
 have hm : n % 18446744073709551616 = n := Nat.mod_eq_of_lt (by omega)
 go_enter Tryz.func23, Tryz.ntmps23
 go_wp2_with fail
 refine Calls.mono cS.out ?_
 rintro e w1 ⟨rfl, hb⟩
 replace hb := Lib.hid hb
 clear cS
 dsimp only
 go_wp2_with fail
 go_ret
 exact ⟨rfl, hb.out⟩
end Go.Proofs.YtafhnlnhflehhaaGreatDoor
