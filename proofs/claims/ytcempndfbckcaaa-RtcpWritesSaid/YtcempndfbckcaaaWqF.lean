/- The law RtcpWrites. No condition. -/
import Derived.Test.YtcempndfbckcaaaWqE
import Derived.Test.YtcempndfbckcaaaGX7
import Derived.Test.YtcempndfbckcaaaGX6
import Derived.Test.YtcempndfbckcaaaRcM
import Derived.Test.YtcempndfbckcaaaSam
namespace Go.Proofs.Ytcempndfbckcaaa
open Go.RowKit
set_option maxRecDepth 100000 in
set_option maxHeartbeats 8000000 in
theorem law_rtwrites (sl : Option Addr) (nl cl : Nat) (w : World) (hl : Rd w (.loop ctlTy) [.slice sl nl cl]) :
  Calls Try.prog 13 #[.slice sl nl cl] w fun e w' => e = .returned (.bool true) ∧ Below w.heap.size w w' := by
 obtain ⟨L, hV, hwf⟩ := ctls_of_Rd hl
 have ha := Lib.hid (rtcp_alive w)
 replace hV := Lib.hid hV
 have hln := Lib.hid hV.out.len
 clear hl
 replace hwf := Lib.hid hwf
 go_enter Try.func13, Try.ntmps13
 go_wp2_with fail
 refine Calls.mono ha.out ?_
 rintro e w1 ⟨rfl, B1⟩
 replace B1 := Lib.hid B1
 have cG := Lib.hid (great_ok L nl _ w1 (hV.out.bw B1.out))
 clear ha
 dsimp only
 go_wp2_with fail
 refine Calls.mono cG.out ?_
 rintro e w' ⟨⟨b, rfl, hb⟩, rfl⟩
 replace hb := Lib.hid hb
 clear cG
 dsimp only
 cases b with
 | true =>
  go_wp2_with fail
  go_ret
  exact ⟨rfl, B1.out.bel⟩
 | false =>
  obtain ⟨h60, hsm⟩ := hb.out rfl
  replace hsm := Lib.hid hsm
  clear hb
  have cW := Lib.hid (write_ok L nl _ (by omega) hwf.out hsm.out w1 (hV.out.bw B1.out))
  go_wp2_with fail
  refine Calls.mono cW.out ?_
  rintro e w2 hp
  clear cW
  have hxl := hln.out
  cases hp with
  | no hok he hb =>
   subst he
   replace B1 := Lib.hid (B1.out.trans hb)
   have cV := Lib.hid (rwrite_ok L nl _ (by omega) hwf.out hsm.out w2 (hV.out.bw B1.out))
   replace hok := Lib.hid hok
   clear hb hxl
   dsimp only
   go_wp2_with fail
   refine Calls.mono cV.out ?_
   rintro e w3 hp
   clear cV
   cases hp with
   | yes hok2 s c he ho hb => rw [hok.out] at hok2; cases hok2
   | no hok2 s m c he hb =>
    subst he
    replace B1 := Lib.hid (B1.out.trans hb)
    clear hb hok2
    dsimp only
    go_wp2_with fail
    go_ret
    exact ⟨rfl, B1.out.bel⟩
  | yes hok s c he ho hb =>
   subst he
   replace B1 := Lib.hid (B1.out.trans hb)
   have cV := Lib.hid (rwrite_ok L nl _ (by omega) hwf.out hsm.out w2 (hV.out.bw B1.out))
   obtain ⟨_, _, he, hc1, hc2⟩ := ho.len
   cases he
   unfold maxLen at hc2
   replace ho := Lib.hid ho
   obtain ⟨np, hnp⟩ : ∃ np, (partsB L).length = np := ⟨_, rfl⟩
   rw [hnp] at ho hc1
   replace hok := Lib.hid hok
   clear hb hxl
   rw [hnp]
   dsimp only
   go_wp2_with fail
   refine Calls.mono cV.out ?_
   rintro e w3 hp
   clear cV
   cases hp with
   | no hok2 s m c he hb => rw [hok.out] at hok2; cases hok2
   | yes hok2 s2 c2 he ho2 hb =>
    subst he
    rw [hnp] at ho2 ⊢
    obtain ⟨_, _, he, hc3, hc4⟩ := ho2.len
    cases he
    unfold maxLen at hc4
    replace B1 := Lib.hid (B1.out.trans hb)
    have S3 := Lib.hid (ho.out.bw hb).sb
    have S4 := Lib.hid ho2.sb
    have cR := Lib.hid (read_back L hok.out hwf.out hsm.out (.slice s np c) w3 (by rw [hnp]; exact S3.out))
    rw [hln.out] at cR
    replace hnp := Lib.hid hnp
    clear hb hok2 ho2 ho
    dsimp only
    go_wp2_with fail
    refine Calls.mono cR.out ?_
    rintro e w4 ⟨so, co, rfl, hE, hb⟩
    obtain ⟨_, _, he, hc5, hc6⟩ := hE.len
    cases he
    unfold maxLen at hc6
    replace B1 := Lib.hid (B1.out.trans hb)
    have k1 := conv_sb (S3.out.bw hb)
    have k2 := conv_sb (S4.out.bw hb)
    have cS := Lib.hid (csames_all L nl (by omega) hsm.out _ _ w4 (hV.out.bw B1.out) (ctls_of_EQ hE))
    generalize bstr (partsB L) = z at *
    clear hb hE cR S3 S4
    dsimp only
    go_wp2_with fail
    refine Calls.mono cS.out ?_
    rintro e w5 ⟨rfl, hb⟩
    replace B1 := Lib.hid (B1.out.trans hb)
    clear hb cS
    dsimp only
    go_wp2_with fail
    go_ret
    exact ⟨rfl, B1.out.bel⟩
end Go.Proofs.Ytcempndfbckcaaa
