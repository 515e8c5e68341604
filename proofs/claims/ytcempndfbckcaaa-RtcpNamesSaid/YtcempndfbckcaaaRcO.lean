/- The laws RtcpNames and RtcpLosses. No condition. -/
import Derived.Test.YtcempndfbckcaaaRcL
import Derived.Test.YtcempndfbckcaaaRcJ
import Derived.Test.YtcempndfbckcaaaRcM
import Derived.Test.YtcempndfbckcaaaRcN
import Derived.Test.YtcempndfbckcaaaRd
namespace Go.Proofs.Ytcempndfbckcaaa
open Go.RowKit

set_option maxRecDepth 100000 in
set_option maxHeartbeats 8000000 in
theorem law_rtnames (s : ByteArray) (w : World) (hs : s.size ≤ maxLen) :
    Calls Try.prog 3 #[.string s] w fun e w' => e = .returned (.bool true) ∧ Below w.heap.size w w' := by
  have ha := Lib.hid (rtcp_alive w)
  clear hs
  go_enter Try.func3, Try.ntmps3
  go_wp2_with fail
  refine Calls.mono ha.out ?_
  rintro e w1 ⟨rfl, B1⟩
  replace B1 := Lib.hid B1
  clear ha
  dsimp only
  by_cases h3 : 300 < s.size
  · have d1 : decide (300 < (s.size : Int)) = true := by simp; omega
    go_wp2_with fail
    go_ret
    exact ⟨rfl, B1.out.bel⟩
  have d1 : decide (300 < (s.size : Int)) = false := by simp; omega
  have c1 := Lib.hid (isname_ok s (by omega) w1)
  go_wp2_with fail
  refine Calls.mono c1.out ?_
  rintro e w2 ⟨rfl, hb⟩
  have B2 := Lib.hid (B1.out.trans hb)
  have c2 := Lib.hid (rname_ok s (by omega) w2)
  clear c1 hb B1
  dsimp only
  generalize nameB s = r at *
  go_wp2_with fail
  refine Calls.mono c2.out ?_
  rintro e w3 ⟨rfl, rfl⟩
  dsimp only
  go_wp2_with fail
  go_ret
  exact ⟨by simp, B2.out.bel⟩

theorem lossR {w : World} {base : Nat} {cs : List Value} (h : Rd w (.scope (.seq (.label 5) (.seq (.label 5) .skip))) cs) : ∃ p : Nat × Nat, (p.1 < 65536 ∧ p.2 < 65536) ∧ EO.R w base p cs := by
  obtain ⟨c1, r1, rfl, ⟨n1, rfl, hw1⟩, c2, r2, rfl, ⟨n2, rfl, hw2⟩, h3⟩ := h
  have h3' : r2 = [] := h3
  subst h3'
  have b1 := bounds_u16 hw1
  have b2 := bounds_u16 hw2
  refine ⟨(n1.toNat, n2.toNat), ⟨by dsimp only; omega, by dsimp only; omega⟩, ?_⟩
  show _ = lossV _
  simp only [lossV]
  rw [Int.toNat_of_nonneg b1.1, Int.toNat_of_nonneg b2.1]
  rfl
theorem u16R {w : World} {base : Nat} {cs : List Value} (h : Rd w (.label 5) cs) : ∃ p : Nat, p < 65536 ∧ U1N.R w base p cs := by
  obtain ⟨n1, rfl, hw1⟩ := h
  have b1 := bounds_u16 hw1
  refine ⟨n1.toNat, by omega, ?_⟩
  show _ = u16V _
  simp only [u16V]
  rw [Int.toNat_of_nonneg b1.1]
  rfl
end Go.Proofs.Ytcempndfbckcaaa
