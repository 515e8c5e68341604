/- The law FecMakes. No condition. -/
import Derived.Test.YtgiajnfmjpdodaaFeM
namespace Go.Proofs.Ytgiajnfmjpdodaa
open Go.RowKit

theorem great_small {D : List RtpD} (h : greatB D = false) : D.length ≤ 40 ∧ ∀ d ∈ D, d.payload.length ≤ 1500 ∧ d.extra.length ≤ 1500 ∧ d.others.length ≤ 100 := by
  unfold greatB at h
  rw [Bool.or_eq_false_iff] at h
  obtain ⟨h1, h2⟩ := h
  refine ⟨by have := of_decide_eq_false h2; omega, fun d hd => ?_⟩
  have h3 := List.any_eq_false.1 h1 d hd
  have h4 : ¬ (1500 < d.payload.length ∨ 1500 < d.extra.length ∨ 100 < d.others.length) := fun h => h3 (decide_eq_true h)
  omega
set_option maxRecDepth 100000 in
set_option maxHeartbeats 8000000 in
theorem law_fmakes (a : Option Addr) (len cap : Nat) (w : World) (h : Rd w (.loop rtpTy) [.slice a len cap]) :
    Calls Try.prog 10 #[.slice a len cap] w fun e w' => e = .returned (.bool true) ∧ Below w.heap.size w w' := by
  obtain ⟨D, hv⟩ := rtps_at h
  obtain ⟨_, _, he, hn, hm⟩ := hv.sl
  simp only [Value.slice.injEq, true_and] at he
  obtain ⟨rfl, rfl⟩ := he
  unfold maxLen at hm
  clear h
  have ha := Lib.hid (fec_alive w)
  have hV := Lib.hid hv
  have hdl := Lib.hid hv.dl
  clear hv
  go_enter Try.func10, Try.ntmps10
  go_wp2_with fail
  refine Calls.mono ha.out ?_
  rintro e w1 ⟨rfl, B1⟩
  replace B1 := Lib.hid B1
  clear ha
  have cG := Lib.hid (great_any _ _ _ w1 (hV.out.bw B1.out))
  cases hg : greatB D with
  | true =>
    rw [hg] at cG
    replace hg := Lib.hid hg
    go_wp2_with fail
    refine Calls.mono cG.out ?_
    rintro e w2 ⟨rfl, rfl⟩
    clear cG
    go_wp2_with fail
    go_ret
    exact ⟨rfl, B1.out⟩
  | false =>
    rw [hg] at cG
    obtain ⟨hs1, hs2⟩ := great_small hg
    rw [hdl.out] at hs1
    have hpl : ∀ d ∈ D, d.payload.length ≤ 1000000 := fun d hd => by have := (hs2 d hd).1; omega
    have cM := Lib.hid (make_any _ _ _ w1 (hV.out.bw B1.out) (by omega) hpl)
    have cR := fun wz (hb : BW w wz) => Lib.hid (refMake_any _ _ _ wz (hV.out.bw hb) (by omega) hpl)
    unfold MakePost at cM
    unfold RMakePost at cR
    generalize makeN D = R at *
    replace hg := Lib.hid hg
    replace hs2 := Lib.hid hs2
    replace hpl := Lib.hid hpl
    go_wp2_with fail
    refine Calls.mono cG.out ?_
    rintro e w2 ⟨rfl, rfl⟩
    clear cG
    go_wp2_with fail
    refine Calls.mono cM.out ?_
    rintro e w2 ⟨hr, hb⟩
    have B2 := Lib.hid (B1.out.trans hb)
    have cR2 := cR w2 B2.out
    clear cM cR hb B1
    rcases hr with ⟨b, v, rfl, rfl, O⟩ | ⟨rfl, rfl⟩
    · obtain ⟨s2, c2, rfl, hc2, hm2⟩ := O.len
      unfold maxLen at hm2
      have S2 := Lib.hid O.sb
      clear O
      generalize hbl : b.length = nb at *
      replace hbl := Lib.hid hbl
      dsimp only
      go_wp2_with fail
      refine Calls.mono cR2.out ?_
      rintro e w3 ⟨hr, hb⟩
      have B3 := Lib.hid (B2.out.trans hb)
      have S3 := Lib.hid (S2.out.bw hb)
      clear hb cR2 S2 B2
      rcases hr with ⟨b', v, he, rfl, O⟩ | ⟨he, _⟩
      case inr => cases he
      obtain rfl : b = b' := Option.some.inj he
      obtain ⟨s3, c3, rfl, hc3, hm3⟩ := O.len
      unfold maxLen at hm3
      rw [hbl.out] at O
      have k1 := conv_sb S3.out
      have k2 := conv_sb O.sb
      clear O he
      simp only [hbl.out] at hc3 ⊢
      generalize bstr b = z at *
      go_wp2_with fail
      go_ret
      exact ⟨rfl, B3.out⟩
    · dsimp only
      go_wp2_with fail
      refine Calls.mono cR2.out ?_
      rintro e w3 ⟨hr, hb⟩
      have B3 := Lib.hid (B2.out.trans hb)
      clear hb cR2 B2
      rcases hr with ⟨b', v, he, _⟩ | ⟨_, v, rfl⟩
      · cases he
      dsimp only
      go_wp2_with fail
      go_ret
      exact ⟨rfl, B3.out⟩
end Go.Proofs.Ytgiajnfmjpdodaa
