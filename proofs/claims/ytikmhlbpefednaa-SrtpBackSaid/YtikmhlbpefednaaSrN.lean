/- The law SrtpPeeks. No condition. -/
import Derived.Test.YtikmhlbpefednaaSrM
import Derived.Test.YtikmhlbpefednaaSrL
namespace Go.Proofs.Ytikmhlbpefednaa
open Go.RowKit

set_option maxRecDepth 100000 in
set_option maxHeartbeats 8000000 in
theorem law_peeks (a : Option Addr) (len cap : Nat) (w : World) (h : Rd w (.loop (.label 4)) [.slice a len cap]) :
    Calls Try.prog 3 #[.slice a len cap] w fun e w' => e = .returned (.bool true) ∧ Below w.heap.size w w' := by
  obtain ⟨l, hv⟩ := SB_of_Rd h
  obtain ⟨_, _, he, hn, hm⟩ := hv.len
  simp only [Value.slice.injEq, true_and] at he
  obtain ⟨rfl, rfl⟩ := he
  unfold maxLen at hm
  clear h
  have ha := Lib.hid (srtp_alive w)
  replace hv := Lib.hid hv
  go_enter Try.func3, Try.ntmps3
  go_wp2_with fail
  refine Calls.mono ha.out ?_
  rintro e w1 ⟨rfl, B1⟩
  replace B1 := Lib.hid B1
  clear ha
  dsimp only
  by_cases hl : 3000 < len
  · have d : decide ((3000 : Int) < (len : Int)) = true := by simp; omega
    go_wp2_with fail
    go_ret
    exact ⟨rfl, B1.out⟩
  have d : decide ((3000 : Int) < (len : Int)) = false := by simp; omega
  have c1 := Lib.hid (peek_ok a len cap l (by omega) w1 (hv.out.bw B1.out))
  have c2 := Lib.hid (rpeek_ok a len cap l (by omega) w1 (hv.out.bw B1.out))
  generalize peekN l = P at *
  obtain ⟨x, y, z⟩ := P
  go_upto_region 5 with (fail)
  clear d
  go_wp2_with fail
  refine Calls.mono c1.out ?_
  rintro e w' ⟨rfl, rfl⟩
  dsimp only
  go_upto_region 6 with (fail)
  go_wp2_with fail
  refine Calls.mono c2.out ?_
  rintro e w' ⟨rfl, rfl⟩
  dsimp only
  go_wp2_with fail
  go_ret
  exact ⟨rfl, B1.out⟩
end Go.Proofs.Ytikmhlbpefednaa
