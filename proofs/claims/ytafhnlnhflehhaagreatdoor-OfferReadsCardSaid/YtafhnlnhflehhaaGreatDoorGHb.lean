/- The reference's cut: a text cut at a byte. No condition but the size's. The reference's number of a word. No condition but the size's. Digits of a number, and d. No condition but the sizes'. -/
import Derived.Test.YtafhnlnhflehhaaGreatDoorGHa
import Derived.Test.YtafhnlnhflehhaaGreatDoorGHi
namespace Go.Proofs.YtafhnlnhflehhaaGreatDoor
open Go.RowKit
theorem ba_get (s : ByteArray) (p : Nat) (h : p < s.size) : s.data.toList[p]'(by rw [← ba_size]; exact h) = s[p]'h := by
 rw [Array.getElem_toList]; rfl
theorem ba_take (s : ByteArray) (p : Nat) (h : p < s.size) : s.data.toList.take (p + 1) = s.data.toList.take p ++ [s[p]'h] := by
 rw [List.take_succ_eq_append_getElem (by rw [← ba_size]; exact h), ba_get s p h]
theorem ba_ext_list (s : ByteArray) (a b : Nat) : (s.extract a b).data.toList = (s.data.toList.take b).drop a := by
 rw [ByteArray.data_extract, Array.toList_extract, List.extract_eq_take_drop, List.drop_take]
theorem bS_ext (s : ByteArray) (a b : Nat) : bS ((s.data.toList.take b).drop a) = s.extract a b := ba_ext (by rw [bS_list, ba_ext_list])
set_option maxRecDepth 100000 in
set_option maxHeartbeats 8000000 in
theorem cut_any (S : ByteArray) (c : UInt8) (hS : S.size ≤ 3000) (w : World) :
  Calls Tryz.prog 25 #[.string S, .int .u8 (c.toNat : Nat)] w fun e w' => ∃ s n cp, e = .returned (.slice s n cp) ∧ n ≤ S.size + 1 ∧ EQ EStr 9 w' w.heap.size (.slice s n cp) n ((cutB c S.data.toList).map bS) ∧ BW w w' := by
 obtain ⟨cn, hcn⟩ : ∃ n, c.toNat = n := ⟨_, rfl⟩
 rw [hcn]
 replace hcn := Lib.hid hcn
 have Q := Lib.hid (show EQ EStr 9 w w.heap.size (.slice none 0 0) 0 (([] : List BL).map bS) from EQ.nil _ _ _ _)
 obtain ⟨base, hbase⟩ : ∃ b, w.heap.size = b := ⟨_, rfl⟩
 rw [hbase] at Q ⊢
 have hb0 := Lib.hid hbase
 clear hbase
 have hI0 : Hid (0 ≤ S.size → 0 ≤ 0 ∧ cutB c (S.data.toList.take 0) = ([] : List BL) ++ [(S.data.toList.take 0).drop 0]) := Lib.hid (fun _ => ⟨Nat.le_refl _, rfl⟩)
 have hJ0 : Hid (0 = S.size + 1 → ([] : List BL) = cutB c S.data.toList) := Lib.hid (fun h => by omega)
 go_enter Tryz.func25, Tryz.ntmps25
 go_upto_region 4 with (fail)
 go_loopg [5, 6, 7] (S.size + 1) (fun m' v5 v6 v7 wx => ∃ (i fr n cp : Nat) (s : Option Addr) (P : List BL), m' = S.size + 1 - i ∧ i ≤ S.size + 1 ∧ v7 = .int .i64 (i : Nat) ∧ v6 = .int .i64 (fr : Nat) ∧ v5 = .slice s n cp ∧ n ≤ i ∧ Hid (EQ EStr 9 wx base (.slice s n cp) n (P.map bS)) ∧ Hid (i ≤ S.size → fr ≤ i ∧ cutB c (S.data.toList.take i) = P ++ [(S.data.toList.take i).drop fr]) ∧ Hid (i = S.size + 1 → P = cutB c S.data.toList) ∧ Hid (BW w wx))
 case atStart => exact ⟨0, 0, 0, 0, none, [], by omega, by omega, rfl, rfl, rfl, by omega, Q, hI0, hJ0, Lib.hid (BW.refl _)⟩
 case round =>
  clear Q hI0 hJ0
  obtain ⟨i, fr, n, cp, s, P, rfl, hi, rfl, rfl, rfl, hni, Q, hI, hJ, B⟩ := hrel
  obtain ⟨_, _, he, hncp, hcpm⟩ := Q.out.len
  cases he
  unfold maxLen at hcpm
  by_cases hin : i < S.size
  ·have d1 : decide ((i : Int) ≤ (S.size : Int)) = true := by simp; omega
   have d2 : ((i : Int) == (S.size : Int)) = false := beq_eq_false_iff_ne.2 (by omega)
   obtain ⟨hfr, hI1⟩ := hI.out (by omega)
   have hsn := cut_snoc c (S[i]'hin) _ _ _ hI1
   rw [← ba_take S i hin] at hsn
   obtain ⟨b, hb⟩ : ∃ b, (S[i]'hin).toNat = b := ⟨_, rfl⟩
   have hJ2' : ∀ P' : List BL, i + 1 = S.size + 1 → P' = cutB c S.data.toList := fun P' h => by omega
   by_cases hbc : b = cn
   ·have d3 : ((b : Int) == (cn : Int)) = true := by rw [hbc]; exact beq_self_eq_true _
    have e : S[i]'hin = c := UInt8.toNat_inj.1 (by rw [hb, hcn.out, hbc])
    rw [if_pos e] at hsn
    have hI2 : Hid (i + 1 ≤ S.size → i + 1 ≤ i + 1 ∧ cutB c (S.data.toList.take (i + 1)) = (P ++ [(S.data.toList.take i).drop fr]) ++ [(S.data.toList.take (i + 1)).drop (i + 1)]) := Lib.hid (fun _ => ⟨Nat.le_refl _, by
     rw [hsn, List.drop_of_length_le (i := i + 1) (by rw [List.length_take]; omega)]⟩)
    have hJ2 := Lib.hid (hJ2' (P ++ [(S.data.toList.take i).drop fr]))
    clear hsn hI1 hI hJ hJ2' e
    replace hbc := Lib.hid hbc
    go_upto_region 7 with (fail)
    have BA := (BW.refl wr).alloc (o := .cells #[.string (S.extract fr i)] 9)
    have L11 : Hid (Sls (wr.alloc (.cells #[.string (S.extract fr i)] 9)) EStr.size (.slice (some ⟨wr.heap.size, 0, none⟩) 1 1) 1 [.string (S.extract fr i)]) := Lib.hid (Sls.new1 (E := EStr) wr 9 [.string (S.extract fr i)] rfl)
    replace Q := Lib.hid (Q.out.bw BA)
    replace B := Lib.hid (B.out.trans BA)
    have hz11 := Lib.hid (Nat.le_trans (Nat.le_of_eq hb0.out.symm) B.out.size)
    clear BA
    go_upto_region 8 with (at_builtin; go_must (refine wpList_apEQ slStr rfl _ _ rfl base (.slice s n cp) n _ rfl Q.out _ rfl 1 [S.extract fr i] [.string (S.extract fr i)] L11.out (EL.single rfl) rfl (by omega) hz11.out (fun _ _ => trivial) ?_; intro s7 c7 w7 hc7 hm7 E7 T7 B7 G7; unfold maxLen at hm7; replace E7 := Lib.hid E7; replace B := Lib.hid (B.out.step B7 (Nat.le_of_eq hb0.out)); clear B7 G7 T7 Q))
    have E8 : Hid (EQ EStr 9 w7 base (.slice s7 (n + 1) c7) (n + 1) ((P ++ [(S.data.toList.take i).drop fr]).map bS)) := Lib.hid (by
     rw [List.map_append, List.map_singleton, bS_ext]; exact E7.out)
    clear E7 L11 hz11
    try simp only [Act.put, List.setIfInBounds_toArray, List.set_cons_succ, List.set_cons_zero]
    go_wp2_with fail
    go_roundg (S.size + 1 - (i + 1))
    case measure => omega
    case rel => exact ⟨i + 1, i + 1, n + 1, c7, s7, _, rfl, by omega, by first | rfl | (push_cast; rfl), by first | rfl | (push_cast; rfl), rfl, by omega, E8, hI2, hJ2, B⟩
   ·have d3 : ((b : Int) == (cn : Int)) = false := beq_eq_false_iff_ne.2 (by omega)
    have e : S[i]'hin ≠ c := fun e => hbc (by rw [← hb, e, hcn.out])
    rw [if_neg e] at hsn
    have hI2 : Hid (i + 1 ≤ S.size → fr ≤ i + 1 ∧ cutB c (S.data.toList.take (i + 1)) = P ++ [(S.data.toList.take (i + 1)).drop fr]) := Lib.hid (fun _ => ⟨by omega, by
     rw [hsn]
     congr 2
     conv => rhs; rw [ba_take S i hin, List.drop_append_of_le_length (by rw [List.length_take, ← ba_size]; omega)]⟩)
    have hJ2 := Lib.hid (hJ2' P)
    clear hsn hI1 hI hJ hJ2' e
    replace hbc := Lib.hid hbc
    go_wp2_with fail
    go_roundg (S.size + 1 - (i + 1))
    case measure => omega
    case rel => exact ⟨i + 1, fr, n, cp, s, P, rfl, by omega, by first | rfl | (push_cast; rfl), rfl, rfl, by omega, Q, hI2, hJ2, B⟩
  by_cases hie : i = S.size
  ·have d1 : decide ((i : Int) ≤ (S.size : Int)) = true := by simp; omega
   have d2 : ((i : Int) == (S.size : Int)) = true := beq_iff_eq.2 (by omega)
   obtain ⟨hfr, hI1⟩ := hI.out (by omega)
   have hI2 : Hid (i + 1 ≤ S.size → i + 1 ≤ i + 1 ∧ cutB c (S.data.toList.take (i + 1)) = (P ++ [(S.data.toList.take i).drop fr]) ++ [(S.data.toList.take (i + 1)).drop (i + 1)]) := Lib.hid (fun h => by omega)
   have hJ2 : Hid (i + 1 = S.size + 1 → P ++ [(S.data.toList.take i).drop fr] = cutB c S.data.toList) := Lib.hid (fun _ => by
    rw [← hI1, List.take_of_length_le (by rw [← ba_size]; omega)])
   clear hI1 hI hJ
   have hle : i ≤ S.size := by omega
   replace hie := Lib.hid hie
   go_upto_region 7 with (fail)
   have BA := (BW.refl wr).alloc (o := .cells #[.string (S.extract fr i)] 9)
   have L11 : Hid (Sls (wr.alloc (.cells #[.string (S.extract fr i)] 9)) EStr.size (.slice (some ⟨wr.heap.size, 0, none⟩) 1 1) 1 [.string (S.extract fr i)]) := Lib.hid (Sls.new1 (E := EStr) wr 9 [.string (S.extract fr i)] rfl)
   replace Q := Lib.hid (Q.out.bw BA)
   replace B := Lib.hid (B.out.trans BA)
   have hz11 := Lib.hid (Nat.le_trans (Nat.le_of_eq hb0.out.symm) B.out.size)
   clear BA
   go_upto_region 8 with (at_builtin; go_must (refine wpList_apEQ slStr rfl _ _ rfl base (.slice s n cp) n _ rfl Q.out _ rfl 1 [S.extract fr i] [.string (S.extract fr i)] L11.out (EL.single rfl) rfl (by omega) hz11.out (fun _ _ => trivial) ?_; intro s7 c7 w7 hc7 hm7 E7 T7 B7 G7; unfold maxLen at hm7; replace E7 := Lib.hid E7; replace B := Lib.hid (B.out.step B7 (Nat.le_of_eq hb0.out)); clear B7 G7 T7 Q))
   have E8 : Hid (EQ EStr 9 w7 base (.slice s7 (n + 1) c7) (n + 1) ((P ++ [(S.data.toList.take i).drop fr]).map bS)) := Lib.hid (by
    rw [List.map_append, List.map_singleton, bS_ext]; exact E7.out)
   clear E7 L11 hz11
   try simp only [Act.put, List.setIfInBounds_toArray, List.set_cons_succ, List.set_cons_zero]
   go_wp2_with fail
   go_roundg (S.size + 1 - (i + 1))
   case measure => omega
   case rel => exact ⟨i + 1, i + 1, n + 1, c7, s7, _, rfl, by omega, by first | rfl | (push_cast; rfl), by first | rfl | (push_cast; rfl), rfl, by omega, E8, hI2, hJ2, B⟩
  ·obtain rfl : i = S.size + 1 := by omega
   have d1 : decide (((S.size + 1 : Nat) : Int) ≤ (S.size : Int)) = false := decide_eq_false (by omega)
   have d1' : decide (((S.size : Int) + 1) ≤ (S.size : Int)) = false := decide_eq_false (by omega)
   have hP := hJ.out rfl
   rw [hP] at Q
   clear hI hJ hP
   go_wp2_with fail
   go_ret
   exact ⟨_, _, _, rfl, hni, Q.out, B.out⟩
end Go.Proofs.YtafhnlnhflehhaaGreatDoor

namespace Go.Proofs.YtafhnlnhflehhaaGreatDoor
open Go.RowKit
def NumR (S : ByteArray) (e : Ending) : Prop := ∃ v : Int, e = .returned (.int .i64 v) ∧ -1 ≤ v ∧ v < 1000000000 ∧ ∀ n : Nat, n ≤ 1048576 → S.data.toList = Lib.decDigits n → v = n
theorem NumR.no {S : ByteArray} (h : ∀ n : Nat, n ≤ 1048576 → S.data.toList ≠ Lib.decDigits n) : NumR S (.returned (.int .i64 (-1))) := ⟨-1, rfl, by decide, by decide, fun n hn e => absurd e (h n hn)⟩
set_option maxRecDepth 100000 in
set_option maxHeartbeats 8000000 in
theorem num_any (S : ByteArray) (hS : S.size ≤ 3000) (w : World) :
  Calls Tryz.prog 26 #[.string S] w fun e w' => NumR S e ∧ BW w w' := by
 by_cases h1 : S.size < 1
 ·have d1 : decide ((S.size : Int) < 1) = true := by simp; omega
  have hR := Lib.hid (NumR.no (S := S) (fun n hn e => by
   have h2 := dig_ne n
   rw [← e] at h2
   exact h2 (List.eq_nil_of_length_eq_zero (by rw [← ba_size]; omega))))
  go_enter Tryz.func26, Tryz.ntmps26
  go_wp2_with fail
  go_ret
  exact ⟨hR.out, BW.refl _⟩
 by_cases h8 : 8 < S.size
 ·have d1 : decide ((S.size : Int) < 1) = false := by simp; omega
  have d2 : decide (8 < (S.size : Int)) = true := by simp; omega
  have hR := Lib.hid (NumR.no (S := S) (fun n hn e => by
   have h2 := dD_le hn
   rw [← e, ← ba_size] at h2
   omega))
  go_enter Tryz.func26, Tryz.ntmps26
  go_wp2_with fail
  go_ret
  exact ⟨hR.out, BW.refl _⟩
 have d1 : decide ((S.size : Int) < 1) = false := by simp; omega
 have d2 : decide (8 < (S.size : Int)) = false := by simp; omega
 have hp0 : Hid (0 < 10 ^ 0) := Lib.hid (by decide)
 have hv0 : Hid (0 = valD (S.data.toList.take 0)) := Lib.hid rfl
 go_enter Tryz.func26, Tryz.ntmps26
 go_upto_region 5 with (fail)
 clear d1 d2
 go_loopg [3, 4] (S.size + 1) (fun m' v3 v4 wx => ∃ i a : Nat, m' = S.size + 1 - i ∧ i ≤ S.size ∧ v4 = .int .i64 (i : Nat) ∧ v3 = .int .i64 (a : Nat) ∧ wx = w ∧ Hid (a < 10 ^ i) ∧ Hid (a = valD (S.data.toList.take i)))
 case atStart => exact ⟨0, 0, rfl, by omega, rfl, rfl, rfl, hp0, hv0⟩
 case round =>
  clear hp0 hv0
  obtain ⟨i, a, rfl, hi, rfl, rfl, rfl, hp, hv⟩ := hrel
  have ha : a < 100000000 := Nat.lt_of_lt_of_le hp.out (Nat.pow_le_pow_right (by decide) (show i ≤ 8 by omega))
  by_cases hin : i < S.size
  ·have d3 : decide ((i : Int) < (S.size : Int)) = true := by simp; omega
   obtain ⟨b, hb⟩ : ∃ b, (S[i]'hin).toNat = b := ⟨_, rfl⟩
   have hbad : b < 48 ∨ 57 < b → NumR S (.returned (.int .i64 (-1))) := fun h => NumR.no (fun n hn e => by
    have hm : S[i]'hin ∈ Lib.decDigits n := by rw [← e, ← ba_get S i hin]; exact List.getElem_mem _
    have := dig_mem n _ hm
    rw [hb] at this
    omega)
   have htk := ba_take S i hin
   by_cases h48 : b < 48
   ·have d4 : decide ((b : Int) < 48) = true := by simp; omega
    have hR := Lib.hid (hbad (.inl h48))
    clear hbad htk
    go_wp2_with fail
    go_ret
    exact ⟨hR.out, BW.refl _⟩
   by_cases h57 : 57 < b
   ·have d4 : decide ((b : Int) < 48) = false := by simp; omega
    have d5 : decide (57 < (b : Int)) = true := by simp; omega
    have hR := Lib.hid (hbad (.inr h57))
    clear hbad htk
    go_wp2_with fail
    go_ret
    exact ⟨hR.out, BW.refl _⟩
   ·have d4 : decide ((b : Int) < 48) = false := by simp; omega
    have d5 : decide (57 < (b : Int)) = false := by simp; omega
    have hp2 : Hid (10 * a + (b - 48) < 10 ^ (i + 1)) := Lib.hid (by have := hp.out; rw [Nat.pow_succ]; omega)
    have hv2 : Hid (10 * a + (b - 48) = valD (S.data.toList.take (i + 1))) := Lib.hid (by rw [htk, valD_snoc, ← hv.out, hb])
    clear hbad htk
    go_wp2_with fail
    go_roundg (S.size + 1 - (i + 1))
    case measure => omega
    case rel => exact ⟨i + 1, 10 * a + (b - 48), rfl, by omega, by first | rfl | (push_cast; rfl), by first | rfl | (congr 1; omega), rfl, hp2, hv2⟩
  ·obtain rfl : i = S.size := by omega
   have d3 : decide ((S.size : Int) < (S.size : Int)) = false := by simp
   have hR : Hid (NumR S (.returned (.int .i64 (a : Nat)))) := Lib.hid ⟨a, rfl, by omega, by omega, fun n hn e => by
    have := hv.out
    rw [List.take_of_length_le (by rw [← ba_size]; exact Nat.le_refl _), e, valD_dig] at this
    omega⟩
   go_wp2_with fail
   go_ret
   exact ⟨hR.out, BW.refl _⟩
end Go.Proofs.YtafhnlnhflehhaaGreatDoor

namespace Go.Proofs.YtafhnlnhflehhaaGreatDoor
open Go.RowKit
theorem bstr_one (b : Nat) (hb : b < 256) : (bstr [b]).data.toList = [UInt8.ofNat b] := by
 unfold bstr strOfNums
 simp
set_option maxRecDepth 100000 in
set_option maxHeartbeats 8000000 in
theorem digits_any : ∀ (u : Nat), u ≤ 1048576 → ∀ w : World,
  Calls Tryz.prog 41 #[.int .u64 (u : Nat)] w fun e w' => e = .returned (.string (bS (Lib.decDigits u))) ∧ BW w w' := by
 intro u
 induction u using Nat.strongRecOn with
 | _ u ih =>
  intro hu w
  by_cases h10 : u < 10
  ·have d1 : decide ((u : Int) < 10) = true := by simp; omega
   have BA := Lib.hid ((BW.refl w).alloc (o := .cells #[.int .u8 ((48 + u : Nat) : Int)] 5))
   have hS := conv_sb (SB.new1 w 5 (48 + u) (by omega))
   obtain ⟨q, hq⟩ : ∃ q, bstr [48 + u] = q := ⟨_, rfl⟩
   rw [hq] at hS
   have hr : Hid (q = bS (Lib.decDigits u)) := Lib.hid (ba_ext (by rw [← hq, bstr_one _ (by omega), bS_list, Lib.decDigits, dif_pos h10]))
   clear hq ih
   rw [show ((48 + u : Nat) : Int) = 48 + (u : Int) from by push_cast; rfl] at hS BA
   have hm : (48 + u) % 256 = 48 + u := by omega
   go_enter Tryz.func41, Tryz.ntmps41
   go_wp2_with fail
   go_ret
   exact ⟨by rw [← hr.out]; rfl, BA.out⟩
  ·have d1 : decide ((u : Int) < 10) = false := by simp; omega
   have hv2 : u / 10 ≤ 1048576 := by omega
   have cI := ih (u / 10) (by omega) hv2
   have nl := dD_le (n := u / 10) hv2
   obtain ⟨bd, hbd⟩ : ∃ x, bS (Lib.decDigits (u / 10)) = x := ⟨_, rfl⟩
   rw [hbd] at cI
   have nd : bd.size ≤ 7 := by rw [← hbd, bS_size]; exact nl
   have hm1 : (48 + u % 10) % 256 = 48 + u % 10 := by omega
   obtain ⟨q, hq⟩ : ∃ q, bstr [48 + u % 10] = q := ⟨_, rfl⟩
   have nq : q.size = 1 := by rw [ba_size, ← hq, bstr_one _ (by omega)]; rfl
   have hr : Hid (bd ++ q = bS (Lib.decDigits u)) := Lib.hid (ba_ext (by
    rw [ba_app, ← hq, ← hbd, bstr_one _ (by omega), bS_list, bS_list]
    conv => rhs; rw [Lib.decDigits, dif_neg h10]))
   have a1 : ¬ 9223372036854775807 < bd.size + q.size := by omega
   have hlt : 48 + u % 10 < 256 := by omega
   replace cI := Lib.hid cI
   replace hq := Lib.hid hq
   clear hbd nl ih nd nq
   go_enter Tryz.func41, Tryz.ntmps41
   go_upto_region 3 with (fail)
   have BB := Lib.hid (BW.refl w)
   refine wp_region_gg [] [] [] (by kernel_rfl) ?_
   refine hoist [] [] (a1 := ?_) 0 rfl (by kernel_rfl) (.inl ⟨rfl, rfl⟩) rfl rfl rfl (fun x K hK => ?_) ?_
   rotate_left
   ·go_big_quiet_op
    exact hK
   refine hoist [] [] (a1 := ?_) 1 rfl (by kernel_rfl) (.inl ⟨rfl, rfl⟩) rfl rfl rfl (fun x K hK => ?_) ?_
   rotate_left
   ·go_big_quiet_op
    exact hK
   refine hoist_call [] [] (a1 := ?_) 2 rfl (by kernel_rfl) (.inl ⟨rfl, rfl⟩) rfl rfl rfl (fun x K hK => ?_) ?_
   rotate_left
   ·go_big_quiet_op
    apply Exists.intro
    refine ⟨fun y => ?_, ?_⟩
    ·exact Calls.laterS_of (cI.out y.now)
    ·exact hK
   refine hoist [] [] (a1 := ?_) 3 rfl (by kernel_rfl) (.inl ⟨rfl, rfl⟩) rfl rfl rfl (fun x K hK => ?_) ?_
   rotate_left
   ·go_big_quiet_op
    exact hK
   refine hoist [] [] (a1 := ?_) 4 rfl (by kernel_rfl) (.inl ⟨rfl, rfl⟩) rfl rfl rfl (fun x K hK => ?_) ?_
   rotate_left
   ·go_big_quiet_op
    exact hK
   refine hoist [] [] (a1 := ?_) 5 rfl (by kernel_rfl) (.inl ⟨rfl, rfl⟩) rfl rfl rfl (fun x K hK => ?_) ?_
   rotate_left
   ·go_big_quiet_op
    exact hK
   refine hoist [] [] (a1 := ?_) 6 rfl (by kernel_rfl) (.inl ⟨rfl, rfl⟩) rfl rfl rfl (fun x K hK => ?_) ?_
   rotate_left
   ·go_big_quiet_op
    exact hK
   refine effect 7 rfl (by kernel_rfl) (by kernel_rfl) rfl (fun x7 K hK => ?_)
   go_simp
   refine hK _ _ (Still.of_below ((Below.refl _ _).alloc (Nat.le_refl _) _)) ?_
   have sb7 := SB.new1 x7.now 5 (48 + u % 10) hlt
   have hb := x7.bw.alloc (o := .cells #[.int .u8 ((48 + u % 10 : Nat) : Int)] 5)
   rw [show ((48 + u % 10 : Nat) : Int) = 48 + (u : Int) % 10 from by push_cast; rfl] at sb7 hb
   clear hK K
   replace BB := Lib.hid hb
   clear hb
   generalize x7.now.alloc _ = w7 at *
   generalize x7.now.heap.size = g7 at *
   have mS : ∀ y : LaterS [] w7, (convert 73 9 (.slice (some ⟨g7, 0, none⟩) 1 1)).run Tryz.prog y.now = .ok (.string q) y.now := fun y => by rw [← hq.out]; exact conv_sb (sb7.bw y.bw)
   clear sb7
   try simp only [Act.put, List.setIfInBounds_toArray, List.set_cons_succ, List.set_cons_zero]
   refine hoist [] [] (a1 := ?_) 8 rfl (by kernel_rfl) (.inl ⟨rfl, rfl⟩) rfl rfl rfl (fun x K hK => ?_) ?_
   rotate_left
   ·go_big_quiet_op
    exact hK
   refine hoist [] [] (a1 := ?_) 9 rfl (by kernel_rfl) (.inl ⟨rfl, rfl⟩) rfl rfl rfl (fun x K hK => ?_) ?_
   rotate_left
   ·go_big_quiet_op
    exact hK
   refine hoist [] [] (a1 := ?_) 10 rfl (by kernel_rfl) (.inl ⟨rfl, rfl⟩) rfl rfl rfl (fun x K hK => ?_) ?_
   rotate_left
   ·go_big_quiet_op
    exact hK
   refine done (by kernel_rfl) (fun xr => ?_)
   have B8 := Lib.hid (BB.out.trans xr.bw)
   go_wp2_with fail
   go_ret
   exact ⟨by rw [← hr.out]; rfl, B8.out⟩
set_option maxRecDepth 100000 in
set_option maxHeartbeats 8000000 in
theorem d_any (n : Nat) (hn : n ≤ 1048576) (w : World) :
  Calls Tryz.prog 23 #[.int .i64 (n : Nat)] w fun e w' => e = .returned (.string (bS (Lib.decDigits n))) ∧ BW w w' := by
 have cS := Lib.hid (digits_any n hn w)
 generalize bS (Lib.decDigits n) = L at cS ⊢
 have hm : n % 18446744073709551616 = n := Nat.mod_eq_of_lt (by omega)
 go_enter Tryz.func23, Tryz.ntmps23
 go_wp2_with fail
 refine Calls.mono cS.out ?_
 rintro e w1 ⟨rfl, hb⟩
 replace hb := Lib.hid hb
 clear cS
 dsimp only
 go_wp2_with fail
 go_ret
 exact ⟨rfl, hb.out⟩
end Go.Proofs.YtafhnlnhflehhaaGreatDoor
