/- rtcp.IsName: what any text is. No condition but the size's. -/
import Derived.Test.YtcempndfbckcaaaPre
import Derived.Test.YtcempndfbckcaaaGKi
import Derived.Laws.RangeAny
import Derived.Laws.Closers25
namespace Go.Proofs.Ytcempndfbckcaaa
open Go.RowKit
def okB (s : ByteArray) (j : Nat) : Bool := if h : j < s.size then decide (33 ≤ (s[j]'h).toNat) && decide ((s[j]'h).toNat ≤ 126) else true
def nameB (s : ByteArray) : Bool := decide (1 ≤ s.size) && decide (s.size ≤ 16) && (List.range s.size).all (okB s)
theorem nameB_bad (s : ByteArray) (j : Nat) (h : j < s.size) (hb : (s[j]'h).toNat < 33 ∨ 126 < (s[j]'h).toNat) : nameB s = false := by
 have : (List.range s.size).all (okB s) = false := by
  rw [List.all_eq_false]
  refine ⟨j, List.mem_range.2 h, ?_⟩
  simp only [okB, dif_pos h]
  simp
  omega
 simp [nameB, this]
theorem iter_bw (w : World) (s : ByteArray) (p : Nat) : BW w (w.iter s p) := (BW.refl w).alloc
set_option maxRecDepth 100000 in
set_option maxHeartbeats 8000000 in
theorem isname_ok (s : ByteArray) (hs : s.size ≤ 1000000) (w : World) :
  Calls Try.prog 16 #[.string s] w fun e w' => e = .returned (.bool (nameB s)) ∧ BW w w' := by
 go_enter Try.func16, Try.ntmps16
 go_upto_region 2 with (fail)
 go_loopg [4] (s.size + 1) (fun m' _ wx => ∃ p, m' = s.size + 1 - p ∧ p ≤ s.size ∧ wx = w.iter s p ∧ Hid (∀ j, j < p → okB s j = true))
 case atStart => exact ⟨0, rfl, by omega, rfl, Lib.hid (fun j hj => by omega)⟩
 case round =>
  obtain ⟨p, rfl, hp, rfl, hA⟩ := hrel
  by_cases hps : p < s.size
  ·by_cases h128 : (s[p]'hps).toNat < 128
   ·have hnx := fun ty => run_next_ascii (P := Try.prog) w s p ty hps h128
    have hbad := nameB_bad s p hps
    have hok : okB s p = (decide (33 ≤ (s[p]'hps).toNat) && decide ((s[p]'hps).toNat ≤ 126)) := by simp only [okB, dif_pos hps]
    generalize (s[p]'hps).toNat = b at *
    replace hbad := Lib.hid hbad
    replace hok := Lib.hid hok
    by_cases h33 : b < 33
    ·have d1 : decide ((b : Int) < 33) = true := by simp; omega
     have hR := hbad.out (.inl h33)
     replace hR := Lib.hid hR
     go_wp2_with fail
     go_ret
     exact ⟨by rw [hR.out]; rfl, iter_bw _ _ _⟩
    by_cases h126 : 126 < b
    ·have d1 : decide ((b : Int) < 33) = false := by simp; omega
     have d2 : decide (126 < (b : Int)) = true := by simp; omega
     have hR := hbad.out (.inr h126)
     replace hR := Lib.hid hR
     go_wp2_with fail
     go_ret
     exact ⟨by rw [hR.out]; rfl, iter_bw _ _ _⟩
    ·have d1 : decide ((b : Int) < 33) = false := by simp; omega
     have d2 : decide (126 < (b : Int)) = false := by simp; omega
     have hk := hok.out
     rw [decide_eq_true (by omega), decide_eq_true (by omega)] at hk
     replace hk := Lib.hid hk
     go_wp2_with fail
     go_roundg (s.size + 1 - (p + 1))
     case measure => omega
     case rel => exact ⟨p + 1, rfl, by omega, rfl, Lib.hid (fun j hj => by rcases Nat.lt_succ_iff_lt_or_eq.1 hj with h | rfl; exact hA.out j h; exact hk.out)⟩
   ·have hnx := fun ty => run_next_any (P := Try.prog) w s p ty hps
    have hd := decode_high s p hps (by omega)
    have hR := nameB_bad s p hps (.inr (by omega))
    generalize (Utf8.decode s p).1 = r at *
    generalize (Utf8.decode s p).2 = q at *
    have d1 : decide ((r : Int) < 33) = false := by simp; omega
    have d2 : decide (126 < (r : Int)) = true := by simp; omega
    replace hR := Lib.hid hR
    go_wp2_with fail
    go_ret
    exact ⟨by rw [hR.out]; rfl, iter_bw _ _ _⟩
  ·have hnx := fun ty => run_next_end (P := Try.prog) w s p ty hps
   obtain rfl : p = s.size := by omega
   have hR : nameB s = (decide (1 ≤ s.size) && decide (s.size ≤ 16)) := by
    have : (List.range s.size).all (okB s) = true := List.all_eq_true.2 fun j hj => hA.out j (List.mem_range.1 hj)
    rw [nameB, this, Bool.and_true]
   replace hR := Lib.hid hR
   have he := (decide_eq_emptyBytes s).symm
   by_cases h0 : s.size = 0
   ·rw [decide_eq_true (by simpa using h0)] at he
    have hR2 := hR.out
    rw [decide_eq_false (by omega), Bool.false_and] at hR2
    replace hR2 := Lib.hid hR2
    replace h0 := Lib.hid h0
    go_wp2_with fail
    go_ret
    exact ⟨by rw [hR2.out]; rfl, iter_bw _ _ _⟩
   ·rw [decide_eq_false (by intro e; exact h0 (by rw [e]; rfl))] at he
    have hR2 := hR.out
    rw [decide_eq_true (by omega), Bool.true_and] at hR2
    have d1 : decide ((s.size : Int) ≤ 16) = decide (s.size ≤ 16) := by simp only [decide_eq_decide]; omega
    generalize decide (s.size ≤ 16) = r at *
    replace hR2 := Lib.hid hR2
    go_wp2_with fail
    go_ret
    exact ⟨by rw [hR2.out]; rfl, iter_bw _ _ _⟩
end Go.Proofs.Ytcempndfbckcaaa
