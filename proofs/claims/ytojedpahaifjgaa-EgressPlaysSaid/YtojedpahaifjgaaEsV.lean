/- The codecs of an egress: what vp8's functions tell of a payload, said over bytes. No condition but the sizes'. -/
import Derived.Test.YtojedpahaifjgaaGEn
import Derived.Test.YtojedpahaifjgaaVpT
namespace Go.Proofs.Ytojedpahaifjgaa
open Go.RowKit
theorem SlB_of_SB {w : World} {sa : Option Addr} {n cp : Nat} {l : List Nat} (h : SB w (.slice sa n cp) n l) : SlB w sa n cp (l.map fun x => ((x : Nat) : Int)) := by
 obtain ⟨h1, h2, h3, h4, h5⟩ := h
 have hb : ∀ x ∈ l.map (fun x => ((x : Nat) : Int)), 0 ≤ x ∧ x ≤ 255 := fun x hx => by
  obtain ⟨y, hy, rfl⟩ := List.mem_map.1 hx
  have := h2 y hy
  omega
 rcases h5 with ⟨h0, sa', cp', e, k1, k2⟩ | ⟨b, o, cap, e, k1, k2, k3, k4⟩
 ·cases e
  exact ⟨by rw [List.length_map, h1], Nat.zero_le _, k2, hb, .inl ⟨rfl, k1⟩⟩
 ·cases e
  refine ⟨by rw [List.length_map, h1], k1, k2, hb, .inr ⟨b, o, rfl, k3, fun i hi => ?_⟩⟩
  rw [k4 i (by omega), bvs_get _ _ (by omega)]
  simp [List.getD_eq_getElem?_getD, h1, hi]
set_option maxRecDepth 100000 in
set_option maxHeartbeats 8000000 in
theorem vkey_any (l : List Int) (sa : Option Addr) (ln cp : Nat) (w : World) (hl : SlB w sa ln cp l) (b0 : Bool) (n1 : Int) (b2 b3 : Bool) (n4 : Int) (b5 : Bool) (n6 : Int) (pl er : Int) (ho : Hid (vpOut l = (#[.bool b0, .int .u8 n1, .bool b2, .bool b3, .int .u16 n4, .bool b5, .int .i64 n6], pl, er))) :
  Calls Try.prog 70 #[.slice sa ln cp] w fun e w' => e = .returned (.bool b5) ∧ BW w w' := by
 have c := Lib.hid (Read_any l sa ln cp w hl b0 n1 b2 b3 n4 b5 n6 pl er ho)
 clear hl ho
 go_enter Try.func70, Try.ntmps70
 go_wp2_with fail
 refine Calls.mono c.out ?_
 rintro e w1 ⟨rfl, hb⟩
 replace hb := Lib.hid (show BW w w1 from hb)
 dsimp only
 go_wp2_with fail
 go_ret
 exact ⟨rfl, hb.out.alloc⟩
set_option maxRecDepth 100000 in
set_option maxHeartbeats 8000000 in
theorem vpic_any (l : List Int) (sa : Option Addr) (ln cp : Nat) (w : World) (hl : SlB w sa ln cp l) (b0 : Bool) (n1 : Int) (b2 b3 : Bool) (n4 : Int) (b5 : Bool) (n6 : Int) (pl er : Int) (ho : Hid (vpOut l = (#[.bool b0, .int .u8 n1, .bool b2, .bool b3, .int .u16 n4, .bool b5, .int .i64 n6], pl, er))) :
  Calls Try.prog 71 #[.slice sa ln cp] w fun e w' => e = .returned (.tuple #[.int .u16 n4, .bool b2]) ∧ BW w w' := by
 have c := Lib.hid (Read_any l sa ln cp w hl b0 n1 b2 b3 n4 b5 n6 pl er ho)
 clear hl ho
 go_enter Try.func71, Try.ntmps71
 go_wp2_with fail
 refine Calls.mono c.out ?_
 rintro e w1 ⟨rfl, hb⟩
 replace hb := Lib.hid (show BW w w1 from hb)
 dsimp only
 have BA : BW w1 (w1.alloc (.cells #[.bool b0, .int .u8 n1, .bool b2, .bool b3, .int .u16 n4, .bool b5, .int .i64 n6] 65)) := (BW.refl _).alloc
 have X := HpB.new w1 (.cells #[.bool b0, .int .u8 n1, .bool b2, .bool b3, .int .u16 n4, .bool b5, .int .i64 n6] 65)
 replace hb := Lib.hid (hb.out.trans BA)
 clear BA c
 go_upto_region 2 with (fail)
 generalize w1.alloc (.cells #[.bool b0, .int .u8 n1, .bool b2, .bool b3, .int .u16 n4, .bool b5, .int .i64 n6] 65) = w2 at *
 generalize w1.heap.size = g at *
 have z2 := (hp_cell X 2).trans (show _ = some (.bool b2) from rfl)
 have z4 := (hp_cell X 4).trans (show _ = some (.int .u16 n4) from rfl)
 have m2 : ∀ y : LaterS [] w2, _ := fun y => y.bw.cell z2
 have m4 : ∀ y : LaterS [] w2, _ := fun y => y.bw.cell z4
 clear X z2 z4
 refine wp_region_gg [] [] [] (by kernel_rfl) ?_
 refine hoist [] [] (a1 := ?_) 0 rfl (by kernel_rfl) (.inl ⟨rfl, rfl⟩) rfl rfl rfl (fun x K hK => ?_) ?_
 rotate_left
 ·go_big_quiet_op
  exact hK
 refine hoist [] [] (a1 := ?_) 1 rfl (by kernel_rfl) (.inl ⟨rfl, rfl⟩) rfl rfl rfl (fun x K hK => ?_) ?_
 rotate_left
 ·go_big_quiet_op
  exact hK
 refine hoist [] [] (a1 := ?_) 2 rfl (by kernel_rfl) (.inl ⟨rfl, rfl⟩) rfl rfl rfl (fun x K hK => ?_) ?_
 rotate_left
 ·go_big_quiet_op
  exact hK
 refine hoist [] [] (a1 := ?_) 3 rfl (by kernel_rfl) (.inl ⟨rfl, rfl⟩) rfl rfl rfl (fun x K hK => ?_) ?_
 rotate_left
 ·go_big_quiet_op
  exact hK
 refine hoist [] [] (a1 := ?_) 4 rfl (by kernel_rfl) (.inl ⟨rfl, rfl⟩) rfl rfl rfl (fun x K hK => ?_) ?_
 rotate_left
 ·go_big_quiet_op
  exact hK
 refine hoist [] [] (a1 := ?_) 5 rfl (by kernel_rfl) (.inl ⟨rfl, rfl⟩) rfl rfl rfl (fun x K hK => ?_) ?_
 rotate_left
 ·go_big_quiet_op
  exact hK
 refine done (by kernel_rfl) (fun xr => ?_)
 replace hb := Lib.hid (hb.out.trans xr.bw)
 clear m2 m4
 generalize xr.now = w3 at *
 go_wp2_with fail
 go_ret2
 exact ⟨rfl, hb.out⟩
theorem has_ok {l : List Int} {b0 : Bool} {n1 : Int} {b3 : Bool} {n4 : Int} {b5 : Bool} {n6 pl er : Int} (h : rOut l = (#[.bool b0, .int .u8 n1, .bool true, .bool b3, .int .u16 n4, .bool b5, .int .i64 n6], pl, er)) : er = 0 := by
 unfold rOut at h
 split at h
 ·simp [vpZero] at h
 ·split at h
  ·simp [vpZero] at h
  ·simp only [Prod.mk.injEq] at h
   exact h.2.2.symm
theorem turn_back {l : List Int} (hr : ∀ x ∈ l, 0 ≤ x ∧ x ≤ 255) {b0 : Bool} {n1 : Int} {b3 : Bool} {n4 : Int} {b5 : Bool} {n6 pl er : Int} (h : rOut l = (#[.bool b0, .int .u8 n1, .bool true, .bool b3, .int .u16 n4, .bool b5, .int .i64 n6], pl, er)) (p : Int) :
  turnN (turnN l p b3) n4 b3 = l ∧ 0 ≤ n4 ∧ n4 ≤ 65535 := by
 have hr' := getD_range hr
 unfold rOut at h
 by_cases hb : rBad l = 0
 ·rw [if_neg (by simp [hb])] at h
  split at h
  ·simp [vpZero] at h
  by_cases hh : 128 ≤ rSec l
  ·obtain ⟨k0, k1, k2, k3, k4⟩ := has_place l hb hh
   have hN : rNum l (rSec l) (rAt1 l) = if 128 ≤ l.getD 2 0 then ((2 : Int), true, true, (l.getD 2 0 - 128) * 256 + l.getD (2 + 1) 0, 2 + 2) else ((2 : Int), true, false, l.getD 2 0, 2 + 1) := by
    unfold rNum; rw [if_pos hh, k2]; rfl
   have r2 := hr' 2
   have r3 := hr' 3
   have e2 : l[2]? = some (l.getD 2 0) := by rw [List.getD_eq_getElem?_getD, List.getElem?_eq_getElem k3]; rfl
   by_cases hw : 128 ≤ l.getD 2 0
   ·rw [if_pos hw] at hN
    rw [hN] at h
    simp only [Prod.mk.injEq, Array.mk.injEq, List.cons.injEq, Value.bool.injEq, Value.int.injEq, and_true, true_and] at h
    obtain ⟨⟨-, -, e3, e4, -⟩, -⟩ := h
    subst e3
    have l3 := k4 hw
    have e3 : l[3]? = some (l.getD 3 0) := by rw [List.getD_eq_getElem?_getD, List.getElem?_eq_getElem l3]; rfl
    have q4 : n4 = (l.getD 2 0 - 128) * 256 + l.getD 3 0 := e4.symm
    refine ⟨?_, by omega, by omega⟩
    refine List.ext_getElem? fun i => ?_
    unfold turnN
    rw [if_pos rfl, if_pos rfl]
    by_cases i3 : i = 3
    ·subst i3
     rw [List.getElem?_set_self (by simp; exact l3), e3]
     congr 1; omega
    rw [List.getElem?_set_ne (Ne.symm i3)]
    by_cases i2 : i = 2
    ·subst i2
     rw [List.getElem?_set_self (by simp; exact k3), e2]
     congr 1; omega
    rw [List.getElem?_set_ne (Ne.symm i2), List.getElem?_set_ne (Ne.symm i3), List.getElem?_set_ne (Ne.symm i2)]
   ·rw [if_neg hw] at hN
    rw [hN] at h
    simp only [Prod.mk.injEq, Array.mk.injEq, List.cons.injEq, Value.bool.injEq, Value.int.injEq, and_true, true_and] at h
    obtain ⟨⟨-, -, e3, e4, -⟩, -⟩ := h
    subst e3
    have q4 : n4 = l.getD 2 0 := e4.symm
    refine ⟨?_, by omega, by omega⟩
    refine List.ext_getElem? fun i => ?_
    unfold turnN
    rw [if_neg (by decide), if_neg (by decide)]
    by_cases i2 : i = 2
    ·subst i2
     rw [List.getElem?_set_self (by simp; exact k3), e2]
     congr 1; omega
    rw [List.getElem?_set_ne (Ne.symm i2), List.getElem?_set_ne (Ne.symm i2)]
  ·have hN : (rNum l (rSec l) (rAt1 l)).2.1 = false := by unfold rNum; rw [if_neg hh]
   simp only [Prod.mk.injEq, Array.mk.injEq, List.cons.injEq, Value.bool.injEq, hN] at h
   exact absurd h.1.2.2.1 (by decide)
 ·rw [if_pos (by simpa using hb)] at h
  simp [vpZero] at h
end Go.Proofs.Ytojedpahaifjgaa
