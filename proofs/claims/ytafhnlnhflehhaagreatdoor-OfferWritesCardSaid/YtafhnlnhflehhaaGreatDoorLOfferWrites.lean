/- The law OfferWrites holds for every input. No condition beyond the row's own. -/
import Derived.Test.YtafhnlnhflehhaaGreatDoorGBa
import Derived.Test.YtafhnlnhflehhaaGreatDoorOiA
import Derived.Test.YtafhnlnhflehhaaGreatDoorOiB
import Derived.WalkKit
import Derived.ProofKit
import Derived.OpenShut
import Derived.ShutString
import Derived.ChangeOld
import Derived.Below
import Derived.Carry
import Derived.LaidMore
import Derived.Lay
import Derived.MakeChecks
import Derived.Stop.Joined
import Derived.SevenTiedAt
import Derived.Test.YtafhnlnhflehhaaGreatDoorRows
import Derived.Test.YtafhnlnhflehhaaGreatDoorCards
import Derived.Test.YtafhnlnhflehhaaGreatDoorTie
namespace Go.Proofs.YtafhnlnhflehhaaGreatDoor.offerWrites
open Go.ChangeShapes Go.WideShapes Go.ChangeAt Go.RowKit
open Go.ChangeMaps (open_string shut_string)
set_option linter.unusedVariables false
theorem own : ownKnob Tryz.prog.godebug = none := by kernel_rfl
theorem laidOut : laidOutB Tryz.prog = true := by kernel_rfl
theorem door_met (os : Os) (args : Array Value) : laidMetH Tryz.prog Rows.offerWritesRow.laid ((World.laidAll Tryz.prog os Rows.offerWritesRow.laid).forCall (fun _ _ => 0) ⟨#[], args, []⟩).memory := by
 rw [MakeChecks.laidMetH_plain _ _ _ (by kernel_rfl)]
 exact laidMet_laidAll _ (by kernel_rfl) (by kernel_rfl)
set_option maxRecDepth 100000 in
theorem lifted (os : Os) (started : os.Started) (H : Type) (enc : TypeId × Value → H) :
  ReturnsInHanded {} Tryz.checked os 3 .any (fun w args => (Rows.offerWritesSpec.pre enc Tryz.prog Tryz.f3 [] false w args ∧ laidMetH Tryz.prog Rows.offerWritesRow.laid w) ∧ sizedMet enc Tryz.prog Tryz.f3 (OpenSpec.ofChange Rows.offerWritesSpec) false w args) (Rows.offerWritesSpec.post enc Tryz.prog Tryz.f3 false true false false) := by
 refine returnsInHanded_of_calls own started (by kernel_rfl)
  (ChangeSpec.witness_shaped (enc := enc) (C := Tryz.checked) (os := os) (X := fun w _ => laidMetH Tryz.prog Rows.offerWritesRow.laid w) false (World.laidAll Tryz.prog os Rows.offerWritesRow.laid) #[.agg #[.int .i64 0, .slice none 0 0, .slice none 0 0]] 12 (World.laidAll_os _ _ _) (World.shaped_of_ZipB (by kernel_rfl) (by kernel_rfl)) (by kernel_rfl) (by kernel_rfl) (by kernel_rfl) (door_met os _)) ?_
 intro w tape i _ hsh _ hok hpre _
 obtain ⟨_, _, _, fn', hfn', _, _, _, _, hval00⟩ := hok
 obtain rfl : fn' = Tryz.f3 := Option.some.inj (hfn'.symm.trans Tryz.func3)
 obtain ⟨⟨⟨ds, gs, before, hw, _⟩, hx⟩, _⟩ := hpre
 have hW := DataW.Whole.of_heap (w' := w.forCall tape i) (by rfl) hw
 have hL : laidMetH Tryz.prog Rows.offerWritesRow.laid (w.forCall tape i) := hx.of_heap (by rfl)
 clear hw hx
 suffices hmain : Calls Tryz.prog 3 i.args (w.forCall tape i) fun e W' => ∃ v, e = .returned v ∧ Rows.offerWritesSpec.post enc Tryz.prog Tryz.f3 false true false false (w.forCall tape i) i.args v W' from
  hmain.mono fun e W' ⟨v, he, hp⟩ => by subst he; exact ChangeSpec.post_blind hp
 have hval0 := hval00
 clear hval00
 generalize w.forCall tape i = W at *
 generalize i.args = args at *
 generalize w.heap.size = base at *
 have hval : ∀ (j : Nat) t v, Tryz.f3.params[j]? = some t → args[j]? = some v → Value.okWide Tryz.prog W .any base t v := hval0
 have hW' := hW
 obtain ⟨p, q, hA0, hV, rfl, hfz, hnd⟩ := hW
 have hA : DataW.TrodAll enc Tryz.prog W 0 (fun _ => true) true Tryz.f3.params.toList args.toList ds p := hA0
 rw [Tryz.params3] at hA hval
 obtain ⟨v0, vs0, d0, ds0, p0, q0, hargs, rfl, rfl, h0, r0⟩ := trodAll_cons hA
 obtain ⟨rfl, rfl, rfl⟩ := trodAll_nil r0
 obtain rfl : args = #[v0] := by cases args; simp_all
 obtain ⟨rfl, rfl⟩ := trodVars_none hV
 simp only [List.append_nil] at hW'
 have k0 := h0
 have lt0 : ∀ x ∈ p0, x.block < W.heap.size := by obtain ⟨m, hm⟩ := k0; exact DataW.trod_lt m _ _ _ hm
 obtain ⟨cs0, rfl, hz0⟩ := okWide_struct Tryz.underlying25 (hval 0 25 v0 rfl rfl)
 have w0 : Rd W (.scope (.seq (.label 3) (.seq (.loop (.scope (.seq (.label 3) (.seq (.label 3) (.seq (.loop (.label 6)) .skip))))) (.seq (.loop (.scope (.seq (.label 3) (.seq (.label 3) (.seq (.label 3) .skip))))) .skip)))) cs0.toList := by obtain ⟨m, hm⟩ := k0; exact Rd_of_trod _ rfl (by kernel_rfl) hm
 clear hA0 hval0
 refine (law_writes cs0 W w0 (laid_facts hL).1 (laid_facts hL).2 (laysSplit.s1_3 W hsh)).mono fun e W' ⟨he, bel⟩ => ?_
 subst he
 exact ⟨_, rfl, _, _, _, [], _, [], hW', trodAll_mk1 (shut_bool Tryz.underlying4 _), (trodAll_cons_mk (Below.trod laidOut (by kernel_rfl) (of_decide_eq_true (by kernel_rfl)) k0 bel lt0) trodAll_mk0), rfl, bel.frame _, fun h => by cases h⟩
theorem over : Rows.offerWritesRow.holds Tryz.pinned (OpenSpec.ofChange Rows.offerWritesSpec) :=
 OpenClaim.holds_of_wide 3 Tryz.f3 rfl rfl rfl rfl rfl rfl rfl ⟨rfl, rfl, rfl, rfl, rfl⟩ rfl rfl rfl rfl rfl (by kernel_rfl) Tryz.func3 (by kernel_rfl)
  (of_decide_eq_true (by kernel_rfl)) (by unfold Func.isWrapper; first | (rw [if_pos (by decide +kernel)]; kernel_rfl) | (rw [if_neg (by decide +kernel)]; exact ⟨rfl, rfl⟩))
  (fun os started H enc _ => lifted os started H enc)
theorem proved : Rows.OfferWritesCardSaid :=
 Claim7.holds_tied_plain_at .later [] _ true (true, "6424efbcc6ac9071bd62d1eb2a55317a6a483e8e970e7cd2d850758ed5894901") true
  over (fun _ h => by cases h) (by kernel_rfl) (fun _ h => by cases h) offerWrites_row_tie rfl ⟨rfl, rfl⟩ (by kernel_rfl) rfl
  (fun f fn hf hfn => by
   obtain rfl : f = 3 := Option.some.inj ((show Tryz.prog.funcNamed Rows.offerWritesRow.func = some 3 by kernel_rfl).symm.trans hf) |>.symm
   obtain rfl : fn = Tryz.f3 := (Option.some.inj (Tryz.func3.symm.trans hfn)).symm
   exact ⟨by kernel_rfl, fun j t ht => by
    rw [Tryz.params3] at ht
    rcases j with _ | j
    ·obtain rfl := Option.some.inj ht
     kernel_rfl
    ·simp at ht⟩)
  (by kernel_rfl)
end Go.Proofs.YtafhnlnhflehhaaGreatDoor.offerWrites
