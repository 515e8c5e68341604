/- The reference's covers of packets: at. No condition but the sizes'. -/
import Derived.Test.YtgiajnfmjpdodaaFeH
namespace Go.Proofs.Ytgiajnfmjpdodaa
open Go.RowKit

set_option maxRecDepth 100000 in
set_option maxHeartbeats 8000000 in
theorem at_any (v : Value) (n : Nat) (l : List Nat) (i : Nat) (w : World) (h : SB w v n l) (hi : i ≤ 1000000000) :
    Calls Try.prog 98 #[v, .int .i64 (i : Nat)] w fun e w' => e = .returned (.int .u8 (l.getD i 0 : Nat)) ∧ w = w' := by
  obtain ⟨sa, cap, rfl, hnc, hcm⟩ := h.len
  unfold maxLen at hcm
  have hll := Lib.hid h.1
  have hH := Lib.hid h
  clear h
  go_enter Try.func98, Try.ntmps98
  by_cases hin : i < n
  · have d : decide ((i : Int) < (n : Int)) = true := by simp; omega
    obtain ⟨b, o, cap', he, _, _, _, hc⟩ := hH.out.form (by omega)
    cases he
    have z := hc i hin
    clear hc
    generalize l.getD i 0 = y at *
    go_wp2_with fail
    go_ret
    exact ⟨rfl, rfl⟩
  · have d : decide ((i : Int) < (n : Int)) = false := by simp; omega
    have e : l.getD i 0 = 0 := by
      rw [List.getD_eq_getElem?_getD, List.getElem?_eq_none (by rw [hll.out]; omega)]; rfl
    replace e := Lib.hid e
    go_wp2_with fail
    go_ret
    rw [e.out]
    exact ⟨rfl, rfl⟩
end Go.Proofs.Ytgiajnfmjpdodaa
