/- The reference's heads and what is seen of bytes. No condition but the sizes'. -/
import Derived.Test.YtikmhlbpefednaaGreatGS2
import Derived.Test.YtikmhlbpefednaaGreatGRn
namespace Go.Proofs.YtikmhlbpefednaaGreat
open Go.RowKit
set_option maxRecDepth 100000 in
set_option maxHeartbeats 8000000 in
theorem rhead_ok (sb : Option Addr) (n cb m : Nat) (b : List Nat) (h1 : 1 ≤ m) (hm : m ≤ n) (hn : n ≤ 1000000000) (w : World) (hv : SB w (.slice sb n cb) n b) (u : Int) (hu : u = (m : Nat)) :
  Calls Tryz.prog 36 #[.slice sb n cb, .int .i64 u] w fun e w' => e = .returned (.tuple #[.int .i64 ((hdrN (b.take m)).1 : Nat), .bool (hdrN (b.take m)).2]) ∧ w = w' := by
 subst hu
 have hbl := hv.1
 have hby := hv.2.1
 obtain ⟨q, o, cap, he, hcap, hmx, hq, hcell⟩ := hv.form (by omega)
 simp only [Value.slice.injEq, true_and] at he
 obtain ⟨rfl, rfl⟩ := he
 have z0 := hcell 0 (by omega)
 rw [Nat.add_zero] at z0
 have hb0 : b.getD 0 0 < 256 := by
  rw [List.getD_eq_getElem?_getD, List.getElem?_eq_getElem (by omega)]
  exact hby _ (List.getElem_mem _)
 have cn := fun (h : 12 + 4 * (b.getD 0 0 % 16) + 4 ≤ m) => Lib.hid (rnum_ok _ n b (12 + 4 * (b.getD 0 0 % 16) + 2) 2 (12 + 4 * ((b.getD 0 0 % 16 : Nat) : Int) + 2) 2 (by omega) (by omega) (by omega) (by omega) (by push_cast; rfl) rfl w hv)
 have hnm : nm b (12 + 4 * (b.getD 0 0 % 16) + 2) 2 < 65536 := nm_lt b hby _ 2
 have hlm : (b.take m).length = m := by rw [List.length_take]; omega
 have hH : hdrN (b.take m) = if b.getD 0 0 / 16 % 2 = 1 then (if 12 + 4 * (b.getD 0 0 % 16) + 4 ≤ m then (12 + 4 * (b.getD 0 0 % 16) + 4 + 4 * nm b (12 + 4 * (b.getD 0 0 % 16) + 2) 2, decide (12 + 4 * (b.getD 0 0 % 16) + 4 + 4 * nm b (12 + 4 * (b.getD 0 0 % 16) + 2) 2 ≤ m)) else (0, false)) else (12 + 4 * (b.getD 0 0 % 16), decide (12 + 4 * (b.getD 0 0 % 16) ≤ m)) := by
  unfold hdrN
  dsimp only
  rw [getD_take b m (by omega), hlm]
  by_cases h4 : 12 + 4 * (b.getD 0 0 % 16) + 4 ≤ m
  ·rw [nm_take b m _ 2 (by omega)]
  ·rw [if_neg h4, if_neg h4]
 change ∀ h, Hid (Calls _ _ _ _ fun e w' => e = .returned (.int .u64 (nm b (12 + 4 * (b.getD 0 0 % 16) + 2) 2 : Nat)) ∧ w = w') at cn
 have hk : b.getD 0 0 % 16 ≤ 15 := by omega
 have hk' : ((b.getD 0 0 : Nat) : Int) % 16 = (b.getD 0 0 % 16 : Nat) := by omega
 have he : b.getD 0 0 / 16 % 2 = 0 ∨ b.getD 0 0 / 16 % 2 = 1 := by omega
 have he' : ((b.getD 0 0 : Nat) : Int) / 16 % 2 = (b.getD 0 0 / 16 % 2 : Nat) := by omega
 generalize hdrN (b.take m) = R at *
 generalize nm b (12 + 4 * (b.getD 0 0 % 16) + 2) 2 = x at *
 generalize b.getD 0 0 % 16 = k at *
 generalize b.getD 0 0 / 16 % 2 = e at *
 generalize b.getD 0 0 = b0 at *
 clear hcell hv hby hbl hq hb0 hlm
 replace cn := Lib.hid cn
 rcases he with rfl | rfl
 ·rw [if_neg (by decide)] at hH
  subst hH
  have d1 : decide ((12 : Int) + 4 * (k : Int) ≤ (m : Int)) = decide (12 + 4 * k ≤ m) := by simp only [decide_eq_decide]; omega
  go_enter Tryz.func36, Tryz.ntmps36
  go_wp2_with fail
  go_ret2
  refine ⟨?_, rfl⟩
  simp
  try omega
 ·rw [if_pos rfl] at hH
  by_cases h4 : 12 + 4 * k + 4 ≤ m
  ·rw [if_pos h4] at hH
   subst hH
   have c := cn.out h4
   clear cn
   replace c := Lib.hid c
   have hx : (x : Int) ≤ 65535 := by omega
   have d0 : decide ((m : Int) < 12 + 4 * (k : Int) + 4) = false := by simp; omega
   have d1 : decide ((12 : Int) + 4 * (k : Int) + 4 + 4 * (x : Int) ≤ (m : Int)) = decide (12 + 4 * k + 4 + 4 * x ≤ m) := by simp only [decide_eq_decide]; omega
   go_enter Tryz.func36, Tryz.ntmps36
   go_wp2_with fail
   refine Calls.mono c.out ?_
   rintro e w' ⟨rfl, rfl⟩
   dsimp only
   go_wp2_with fail
   go_ret2
   refine ⟨?_, rfl⟩
   simp
   try omega
  ·rw [if_neg h4] at hH
   subst hH
   have d0 : decide ((m : Int) < 12 + 4 * (k : Int) + 4) = true := by simp; omega
   clear cn
   go_enter Tryz.func36, Tryz.ntmps36
   go_wp2_with fail
   go_ret2
   exact ⟨rfl, rfl⟩
theorem rpeek_ok (sb : Option Addr) (n cb : Nat) (b : List Nat) (hn : n ≤ 1000000) (w : World) (hv : SB w (.slice sb n cb) n b) :
  Calls Tryz.prog 43 #[.slice sb n cb] w fun e w' => e = .returned (.tuple #[.int .u32 ((peekN b).1 : Nat), .int .u16 ((peekN b).2.1 : Nat), .int .i64 ((peekN b).2.2 : Nat)]) ∧ w = w' := by
 have hbl := hv.1
 have hby := hv.2.1
 by_cases hbig : 1200 < n
 ·have d1 : decide ((1200 : Int) < (n : Int)) = true := by simp; omega
  have hR : peekN b = (0, 0, 3) := by
   unfold peekN
   rw [hbl, if_pos hbig]
  rw [hR]
  clear hR hv hbl hby
  go_enter Tryz.func43, Tryz.ntmps43
  go_wp2_with fail
  go_ret3
  exact ⟨rfl, rfl⟩
 have d1 : decide ((1200 : Int) < (n : Int)) = false := by simp; omega
 by_cases hsm : n < 22
 ·have d2 : decide ((n : Int) < 22) = true := by simp; omega
  have hR : peekN b = (0, 0, 2) := by
   unfold peekN
   rw [hbl, if_neg hbig, if_pos hsm]
  rw [hR]
  clear hR hv hbl hby
  go_enter Tryz.func43, Tryz.ntmps43
  go_wp2_with fail
  go_ret3
  exact ⟨rfl, rfl⟩
 have d2 : decide ((n : Int) < 22) = false := by simp; omega
 obtain ⟨q, o, cap, he, hcap, hmx, hq, hcell⟩ := hv.form (by omega)
 simp only [Value.slice.injEq, true_and] at he
 obtain ⟨rfl, rfl⟩ := he
 have z0 := hcell 0 (by omega)
 rw [Nat.add_zero] at z0
 have hR0 : peekN b = if b.getD 0 0 / 64 ≠ 2 then (0, 0, 3) else if (hdrN (b.take (n - 10))).2 = false then (0, 0, 2) else (nm b 8 4, nm b 2 2, 0) := by
  unfold peekN
  rw [hbl, if_neg (by omega), if_neg (by omega)]
 have ch := Lib.hid (rhead_ok _ n _ (n - 10) b (by omega) (by omega) (by omega) w hv ((n : Int) - 10) (by omega))
 have c8 := Lib.hid (rnum_ok _ n b 8 4 8 4 (by omega) (by omega) (by omega) (by omega) rfl rfl w hv)
 have c2 := Lib.hid (rnum_ok _ n b 2 2 2 2 (by omega) (by omega) (by omega) (by omega) rfl rfl w hv)
 change Hid (Calls _ _ _ _ fun e w' => e = .returned (.int .u64 (nm b 8 4 : Nat)) ∧ w = w') at c8
 change Hid (Calls _ _ _ _ fun e w' => e = .returned (.int .u64 (nm b 2 2 : Nat)) ∧ w = w') at c2
 have hx8 : nm b 8 4 < 4294967296 := nm_lt b hby 8 4
 have hx2 : nm b 2 2 < 65536 := nm_lt b hby 2 2
 have u8' : IntKind.u32.wrap ((nm b 8 4 : Nat) : Int) = (nm b 8 4 : Nat) := IntWalk.u32_in _ (by omega)
 have u2' : IntKind.u16.wrap ((nm b 2 2 : Nat) : Int) = (nm b 2 2 : Nat) := IntWalk.u16_in _ (by omega)
 have hb0 : b.getD 0 0 < 256 := by
  rw [List.getD_eq_getElem?_getD, List.getElem?_eq_getElem (by omega)]
  exact hby _ (List.getElem_mem _)
 have hb6 : ((b.getD 0 0 : Nat) : Int) / 64 = (b.getD 0 0 / 64 : Nat) := by omega
 generalize hdrN (b.take (n - 10)) = H at *
 generalize peekN b = R at *
 generalize nm b 8 4 = x8 at *
 generalize nm b 2 2 = x2 at *
 have hb6l : b.getD 0 0 / 64 < 4 := by omega
 generalize b.getD 0 0 / 64 = b6 at *
 generalize b.getD 0 0 = b0 at *
 clear hcell hv hby hbl hq
 by_cases h6 : b6 = 2
 ·subst h6
  rw [if_neg (by simp)] at hR0
  obtain ⟨Hn, Hb⟩ := H
  dsimp only at ch hR0
  cases Hb with
  | false =>
   rw [if_pos rfl] at hR0
   subst hR0
   go_enter Tryz.func43, Tryz.ntmps43
   go_wp2_with fail
   refine Calls.mono ch.out ?_
   rintro e w' ⟨rfl, rfl⟩
   dsimp only
   go_wp2_with fail
   go_ret3
   exact ⟨rfl, rfl⟩
  | true =>
   rw [if_neg (by decide)] at hR0
   subst hR0
   go_enter Tryz.func43, Tryz.ntmps43
   go_wp2_with fail
   refine Calls.mono ch.out ?_
   rintro e w' ⟨rfl, rfl⟩
   dsimp only
   go_wp2_with fail
   refine Calls.mono c8.out ?_
   rintro e w' ⟨rfl, rfl⟩
   dsimp only
   go_wp2_with fail
   refine Calls.mono c2.out ?_
   rintro e w' ⟨rfl, rfl⟩
   dsimp only
   go_wp2_with fail
   go_ret3
   exact ⟨rfl, rfl⟩
 ·rw [if_pos h6] at hR0
  have d6 : ((b6 : Int) != 2) = true := by simp; omega
  have d7 : (b6 : Int) % 256 = b6 := by omega
  subst hR0
  clear h6
  go_enter Tryz.func43, Tryz.ntmps43
  go_wp2_with fail
  go_ret3
  exact ⟨rfl, rfl⟩
end Go.Proofs.YtikmhlbpefednaaGreat
