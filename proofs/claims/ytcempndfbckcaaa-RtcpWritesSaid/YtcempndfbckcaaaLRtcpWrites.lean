/- The law RtcpWrites holds for every input. No condition beyond the row's own. -/
import Derived.Test.YtcempndfbckcaaaGBa
import Derived.Test.YtcempndfbckcaaaWqF
import Derived.WalkKit
import Derived.ProofKit
import Derived.OpenShut
import Derived.ShutString
import Derived.ChangeOld
import Derived.Below
import Derived.Carry
namespace Go.Proofs.Ytcempndfbckcaaa.rtcpWrites
open Go.ChangeShapes Go.WideShapes Go.ChangeAt Go.RowKit
open Go.ChangeMaps (open_string shut_string)
set_option linter.unusedVariables false
theorem own : ownKnob Try.prog.godebug = none := by kernel_rfl
theorem laidOut : laidOutB Try.prog = true := by kernel_rfl
set_option maxRecDepth 100000 in
theorem lifted (os : Os) (started : os.Started) (H : Type) (enc : TypeId × Value → H) :
  ReturnsInHanded {} Try.checked os 13 .any (Rows.rtcpWritesSpec.pre6 enc Try.prog Try.f13 Rows.rtcpWritesRow.domain false) (Rows.rtcpWritesSpec.post enc Try.prog Try.f13 false true false false) := by
 refine returnsInHanded_of_change (C := Try.checked) own started (by kernel_rfl) Try.func13
  (ChangeSpec.witness6 (enc := enc) (C := Try.checked) false ⟨#[], #[.slice none 0 0], []⟩ 12 (by kernel_rfl) (by kernel_rfl) (by kernel_rfl) (by kernel_rfl)) ?_
 intro W base args ds gs before hval0 hW hcnd _
 have hval : ∀ (j : Nat) t v, Try.f13.params[j]? = some t → args[j]? = some v → Value.okWide Try.prog W .any base t v := hval0
 have hW' := hW
 obtain ⟨p, q, hA0, hV, rfl, hfz, hnd⟩ := hW
 have hA : DataW.TrodAll enc Try.prog W 0 (fun _ => true) true Try.f13.params.toList args.toList ds p := hA0
 rw [Try.params13] at hA hval
 obtain ⟨v0, vs0, d0, ds0, p0, q0, hargs, rfl, rfl, h0, r0⟩ := trodAll_cons hA
 obtain ⟨rfl, rfl, rfl⟩ := trodAll_nil r0
 obtain rfl : args = #[v0] := by cases args; simp_all
 obtain ⟨rfl, rfl⟩ := trodVars_none hV
 have k0 := h0
 have lt0 : ∀ x ∈ p0, x.block < W.heap.size := by obtain ⟨m, hm⟩ := k0; exact DataW.trod_lt m _ _ _ hm
 obtain ⟨a0, len0, cap0, rfl⟩ := okWide_slice Try.underlying95 (hval 0 95 v0 rfl rfl)
 have w0 : Rd W (.loop (.scope (.seq (.label 3) (.seq (.label 6) (.seq (.label 6) (.seq (.label 7) (.seq (.label 6) (.seq (.label 6) (.seq (.label 6) (.seq (.loop (.scope (.seq (.label 6) (.seq (.label 4) (.seq (.label 2) (.seq (.label 6) (.seq (.label 6) (.seq (.label 6) (.seq (.label 6) .skip))))))))) (.seq (.loop (.scope (.seq (.label 6) (.seq (.goto 0) .skip)))) (.seq (.loop (.label 6)) (.seq (.loop (.scope (.seq (.label 5) (.seq (.label 5) .skip)))) (.seq (.loop (.scope (.seq (.label 6) (.seq (.label 4) .skip)))) (.seq (.label 7) .skip))))))))))))))) [.slice a0 len0 cap0] := by obtain ⟨m, hm⟩ := k0; exact Rd_of_trod _ rfl (by kernel_rfl) hm
 clear hA0 hval0
 refine (law_rtwrites a0 len0 cap0 W w0).mono fun e W' ⟨he, bel⟩ => ?_
 subst he
 exact ⟨_, rfl, _, _, _, [], _, [], hW', trodAll_mk1 (shut_bool Try.underlying4 _), (trodAll_cons_mk (Below.trod laidOut (by kernel_rfl) (of_decide_eq_true (by kernel_rfl)) k0 bel lt0) trodAll_mk0), rfl, bel.frame _, fun h => by cases h⟩
theorem over : Rows.rtcpWritesRow.holds Try.pinned (OpenSpec.ofChange Rows.rtcpWritesSpec) :=
 OpenClaim.holds_of_wide 13 Try.f13 rfl rfl rfl rfl rfl rfl rfl ⟨rfl, rfl, rfl, rfl, rfl⟩ rfl rfl rfl rfl rfl (by kernel_rfl) Try.func13 (by kernel_rfl)
  (of_decide_eq_true (by kernel_rfl)) (by unfold Func.isWrapper; first | (rw [if_pos (by decide +kernel)]; kernel_rfl) | (rw [if_neg (by decide +kernel)]; exact ⟨rfl, rfl⟩))
  (fun os started H enc _ => lifted os started H enc)
theorem proved : Rows.RtcpWritesSaid := over
end Go.Proofs.Ytcempndfbckcaaa.rtcpWrites
