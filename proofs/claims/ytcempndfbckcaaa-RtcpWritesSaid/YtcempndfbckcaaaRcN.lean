/- The reference's Name: what any text is. No condition but the size's. -/
import Derived.Test.YtcempndfbckcaaaRcNp
namespace Go.Proofs.Ytcempndfbckcaaa
open Go.RowKit
set_option maxRecDepth 100000 in
set_option maxHeartbeats 8000000 in
theorem rname_ok (s : ByteArray) (hs : s.size ≤ 1000000) (w : World) :
  Calls Try.prog 17 #[.string s] w fun e w' => e = .returned (.bool (nameB s)) ∧ w = w' := by
 by_cases h1 : s.size < 1
 ·have hR : nameB s = false := by rw [nameB, decide_eq_false (by omega)]; rfl
  have d1 : decide ((s.size : Int) < 1) = true := by simp; omega
  replace hR := Lib.hid hR
  go_enter Try.func17, Try.ntmps17
  go_wp2_with fail
  go_ret
  exact ⟨by rw [hR.out]; rfl, rfl⟩
 by_cases h16 : 16 < s.size
 ·have hR : nameB s = false := by rw [nameB, decide_eq_false (p := s.size ≤ 16) (by omega)]; simp
  have d1 : decide ((s.size : Int) < 1) = false := by simp; omega
  have d2 : decide (16 < (s.size : Int)) = true := by simp; omega
  replace hR := Lib.hid hR
  go_enter Try.func17, Try.ntmps17
  go_wp2_with fail
  go_ret
  exact ⟨by rw [hR.out]; rfl, rfl⟩
 have d1 : decide ((s.size : Int) < 1) = false := by simp; omega
 have d2 : decide (16 < (s.size : Int)) = false := by simp; omega
 go_enter Try.func17, Try.ntmps17
 go_upto_region 4 with (fail)
 go_loopg [3] (s.size + 1) (fun m' i wx => ∃ p : Nat, m' = s.size + 1 - p ∧ p ≤ s.size ∧ i = .int .i64 (p : Nat) ∧ wx = w ∧ Hid (∀ j, j < p → okB s j = true))
 case atStart => exact ⟨0, rfl, by omega, rfl, rfl, Lib.hid (fun j hj => by omega)⟩
 case round =>
  obtain ⟨p, rfl, hp, rfl, rfl, hA⟩ := hrel
  by_cases hps : p < s.size
  ·have d3 : decide ((p : Int) < (s.size : Int)) = true := by simp; omega
   have hbad := nameB_bad s p hps
   have hok : okB s p = (decide (33 ≤ (s[p]'hps).toNat) && decide ((s[p]'hps).toNat ≤ 126)) := by simp only [okB, dif_pos hps]
   obtain ⟨b, hb⟩ : ∃ b, (s[p]'hps).toNat = b := ⟨_, rfl⟩
   rw [hb] at hok hbad
   replace hbad := Lib.hid hbad
   replace hok := Lib.hid hok
   by_cases h33 : b < 33
   ·have d4 : decide ((b : Int) < 33) = true := by simp; omega
    have hR := hbad.out (.inl h33)
    replace hR := Lib.hid hR
    go_wp2_with fail
    go_ret
    exact ⟨by rw [hR.out]; rfl, rfl⟩
   by_cases h126 : 126 < b
   ·have d4 : decide ((b : Int) < 33) = false := by simp; omega
    have d5 : decide (126 < (b : Int)) = true := by simp; omega
    have hR := hbad.out (.inr h126)
    replace hR := Lib.hid hR
    go_wp2_with fail
    go_ret
    exact ⟨by rw [hR.out]; rfl, rfl⟩
   ·have d4 : decide ((b : Int) < 33) = false := by simp; omega
    have d5 : decide (126 < (b : Int)) = false := by simp; omega
    have hk := hok.out
    rw [decide_eq_true (by omega), decide_eq_true (by omega)] at hk
    replace hk := Lib.hid hk
    go_wp2_with fail
    go_roundg (s.size + 1 - (p + 1))
    case measure => omega
    case rel => exact ⟨p + 1, rfl, by omega, by first | rfl | (congr 1; omega), rfl, Lib.hid (fun j hj => by rcases Nat.lt_succ_iff_lt_or_eq.1 hj with h | rfl; exact hA.out j h; exact hk.out)⟩
  ·obtain rfl : p = s.size := by omega
   have d3 : decide ((s.size : Int) < (s.size : Int)) = false := by simp
   have hR : nameB s = true := by
    have : (List.range s.size).all (okB s) = true := List.all_eq_true.2 fun j hj => hA.out j (List.mem_range.1 hj)
    rw [nameB, this, decide_eq_true (by omega), decide_eq_true (by omega)]
    rfl
   replace hR := Lib.hid hR
   go_wp2_with fail
   go_ret
   exact ⟨by rw [hR.out]; rfl, rfl⟩
end Go.Proofs.Ytcempndfbckcaaa
