/- The codecs of an egress, all three: does a payload begin anew, which picture has it, another picture's number; and the document's Key. No condition but the sizes'. -/
import Derived.Test.YtojedpahaifjgaaEsN
import Derived.Test.YtojedpahaifjgaaEsR
import Derived.Test.YtojedpahaifjgaaEsV
namespace Go.Proofs.Ytojedpahaifjgaa
open Go.RowKit
def lI (l : List Nat) : List Int := l.map fun x => ((x : Nat) : Int)
theorem lI_by {l : List Nat} (h : ByL l) : ∀ x ∈ lI l, 0 ≤ x ∧ x ≤ 255 := fun x hx => by
 obtain ⟨y, hy, rfl⟩ := List.mem_map.1 hx
 have := h y hy
 omega
def vBo : Value → Bool
 | .bool b => b
 | _ => false
def vIn : Value → Int
 | .int _ n => n
 | _ => 0
def vHas (l : List Int) : Bool := vBo ((vpOut l).1.getD 2 .nilFunc)
def vWide (l : List Int) : Bool := vBo ((vpOut l).1.getD 3 .nilFunc)
def vPic (l : List Int) : Int := vIn ((vpOut l).1.getD 4 .nilFunc)
def vKey (l : List Int) : Bool := vBo ((vpOut l).1.getD 5 .nilFunc)
theorem vp_form (l : List Int) : ∃ (b0 : Bool) (n1 n6 pl er : Int), vpOut l = (#[.bool b0, .int .u8 n1, .bool (vHas l), .bool (vWide l), .int .u16 (vPic l), .bool (vKey l), .int .i64 n6], pl, er) := by
 obtain ⟨b0, n1, b2, b3, n4, b5, n6, pl, er, h⟩ := payT l
 have h2 : vHas l = b2 := by unfold vHas; rw [h]; rfl
 have h3 : vWide l = b3 := by unfold vWide; rw [h]; rfl
 have h4 : vPic l = n4 := by unfold vPic; rw [h]; rfl
 have h5 : vKey l = b5 := by unfold vKey; rw [h]; rfl
 rw [h2, h3, h4, h5]
 exact ⟨b0, n1, n6, pl, er, h⟩
def keyC (c : Nat) (l : List Nat) : Bool := if c = 0 then true else if c = 1 then vKey (lI l) else keyA l
def hasC (c : Nat) (l : List Nat) : Bool := if c = 1 then vHas (lI l) else false
def picC (c : Nat) (l : List Nat) : Int := if c = 1 then vPic (lI l) else 0
theorem fkC_enter (c : Nat) (hc : c < 3) (args : Array Value) (w : World) : (callFunc (fkC c) args).run Try.prog w = .ok (.enter (fkC c) args) w := by
 obtain rfl | rfl | rfl : c = 0 ∨ c = 1 ∨ c = 2 := by omega
 all_goals kernel_rfl
theorem fpC_enter (c : Nat) (hc : c < 3) (args : Array Value) (w : World) : (callFunc (fpC c) args).run Try.prog w = .ok (.enter (fpC c) args) w := by
 obtain rfl | rfl | rfl : c = 0 ∨ c = 1 ∨ c = 2 := by omega
 all_goals kernel_rfl
theorem cK_any (c : Nat) (hc : c < 3) (sp : Option Addr) (np cp : Nat) (l : List Nat) (w : World) (h : SB w (.slice sp np cp) np l) (hn : np ≤ 100000) :
  Calls Try.prog (fkC c) #[.slice sp np cp] w fun e w' => e = .returned (.bool (keyC c l)) ∧ BW w w' := by
 obtain rfl | rfl | rfl : c = 0 ∨ c = 1 ∨ c = 2 := by omega
 ·exact (keyP_any (.slice sp np cp) w).mono fun _ _ ⟨h1, h2⟩ => ⟨h1, by rw [h2]; exact BW.refl _⟩
 ·obtain ⟨b0, n1, n6, pl, er, ho⟩ := vp_form (lI l)
  exact vkey_any (lI l) sp np cp w (SlB_of_SB h) b0 n1 _ _ _ _ n6 pl er ho
 ·exact keyA_any sp np cp l w h hn
theorem cP_any (c : Nat) (hc : c < 3) (sp : Option Addr) (np cp : Nat) (l : List Nat) (w : World) (h : SB w (.slice sp np cp) np l) :
  Calls Try.prog (fpC c) #[.slice sp np cp] w fun e w' => e = .returned (.tuple #[.int .u16 (picC c l), .bool (hasC c l)]) ∧ BW w w' := by
 obtain rfl | rfl | rfl : c = 0 ∨ c = 1 ∨ c = 2 := by omega
 ·exact (picP_any (.slice sp np cp) w).mono fun _ _ ⟨h1, h2⟩ => ⟨h1, by rw [h2]; exact BW.refl _⟩
 ·obtain ⟨b0, n1, n6, pl, er, ho⟩ := vp_form (lI l)
  exact vpic_any (lI l) sp np cp w (SlB_of_SB h) b0 n1 _ _ _ _ n6 pl er ho
 ·exact (picP_any (.slice sp np cp) w).mono fun _ _ ⟨h1, h2⟩ => ⟨h1, by rw [h2]; exact BW.refl _⟩
def TVq (base : Nat) (l : List Int) (wd : Bool) (p : Int) (w : World) (v : Value) : Prop := OwnB w base v (turnN l p wd)
theorem hasC_form {c : Nat} {l : List Nat} (hl : ByL l) (h : hasC c l = true) : c = 1 ∧ ∃ (b0 : Bool) (n1 n6 : Int), vpOut (lI l) = (#[.bool b0, .int .u8 n1, .bool true, .bool (vWide (lI l)), .int .u16 (vPic (lI l)), .bool (vKey (lI l)), .int .i64 n6], 2, 0) ∧ 2 < (lI l).length ∧ (vWide (lI l) = true → 3 < (lI l).length) := by
 unfold hasC at h
 split at h
 ·obtain ⟨b0, n1, n6, pl, er, ho⟩ := vp_form (lI l)
  rw [h] at ho
  have hr := lI_by hl
  have ho' := ho
  rw [vp_eq _ (getD_range hr)] at ho'
  have he := has_ok ho'
  subst he
  obtain ⟨k1, k2, k3, -⟩ := turn_law (lI l) hr 0 (Int.le_refl _) b0 n1 _ _ _ n6 pl ho'
  subst k1
  exact ⟨‹_›, b0, n1, n6, ho, k2, k3⟩
 ·cases h
theorem cT_any (c : Nat) (sp : Option Addr) (np cp : Nat) (l : List Nat) (hh : hasC c l = true) (p : Int) (hp : 0 ≤ p) (hp' : p ≤ 65535) (hn : np ≤ 100000) (base : Nat) (w : World) (hb : base ≤ w.heap.size) (h : SB w (.slice sp np cp) np l) :
  Calls Try.prog 42 #[.slice sp np cp, .int .u16 p] w fun e w' => ∃ sa n c', e = .returned (.tuple #[.slice sa n c', .bool true]) ∧ TVq base (lI l) (vWide (lI l)) p w' (.slice sa n c') ∧ BW w w' := by
 obtain ⟨-, b0, n1, n6, ho, h2, h3⟩ := hasC_form h.2.1 hh
 have hs := SlB_of_SB h
 have hlen : (lI l).length ≤ 140737488355328 := by unfold lI; rw [List.length_map, h.1]; omega
 unfold TVq
 cases hw : vWide (lI l) with
 | false =>
  rw [hw] at ho
  refine (turn_narrow (lI l) sp np cp p w hs hlen h2 hp hp' b0 n1 _ _ n6 ho).mono ?_
  rintro e w' ⟨v, he, hO, hB⟩
  obtain ⟨sa, c', hv, -⟩ := hO.slB (turnN_mem (lI_by h.2.1) p false)
  exact ⟨sa, _, c', by rw [he, hv], by rw [← hv]; exact hO.le hb, hB⟩
 | true =>
  rw [hw] at ho
  refine (turn_wide (lI l) sp np cp p w hs hlen (h3 hw) hp hp' b0 n1 _ _ n6 ho).mono ?_
  rintro e w' ⟨v, he, hO, hB⟩
  obtain ⟨sa, c', hv, -⟩ := hO.slB (turnN_mem (lI_by h.2.1) p true)
  exact ⟨sa, _, c', by rw [he, hv], by rw [← hv]; exact hO.le hb, hB⟩
set_option maxRecDepth 100000 in
set_option maxHeartbeats 8000000 in
theorem rkey28_any (c : Nat) (hc : c < 3) (sp : Option Addr) (np cp : Nat) (l : List Nat) (w : World) (h : SB w (.slice sp np cp) np l) (hn : np ≤ 100000) :
  Calls Try.prog 12 #[.int .i64 (c : Nat), .slice sp np cp] w fun e w' => e = .returned (.bool (keyC c l)) ∧ BW w w' := by
 obtain rfl | rfl | rfl : c = 0 ∨ c = 1 ∨ c = 2 := by omega
 ·clear h
  go_enter Try.func12, Try.ntmps12
  go_wp2_with fail
  go_ret
  exact ⟨rfl, BW.refl _⟩
 ·obtain ⟨b0, n1, n6, pl, er, ho⟩ := vp_form (lI l)
  have hk : keyC 1 l = vKey (lI l) := rfl
  rw [hk]
  have ho' := ho
  rw [vp_eq _ (getD_range (lI_by h.2.1))] at ho'
  have cR := Ref_any (lI l) sp np cp w (SlB_of_SB h)
  unfold rPost at cR
  rw [ho'] at cR
  clear h ho ho' hk
  generalize vKey (lI l) = b5 at *
  generalize vHas (lI l) = b2 at *
  generalize vWide (lI l) = b3 at *
  generalize vPic (lI l) = n4 at *
  replace cR := Lib.hid cR
  go_enter Try.func12, Try.ntmps12
  go_wp2_with fail
  refine Calls.mono cR.out ?_
  rintro e w1 ⟨rfl, hb⟩
  replace hb := Lib.hid (show BW w w1 from hb)
  dsimp only
  go_wp2_with fail
  go_ret
  exact ⟨rfl, hb.out.alloc⟩
 ·have cR := Lib.hid (rkeyA_any sp np cp l w h hn)
  have hk : keyC 2 l = keyA l := rfl
  rw [hk]
  clear h hk
  generalize keyA l = b at *
  go_enter Try.func12, Try.ntmps12
  go_wp2_with fail
  refine Calls.mono cR.out ?_
  rintro e w1 ⟨rfl, hb⟩
  replace hb := Lib.hid hb
  dsimp only
  go_wp2_with fail
  go_ret
  exact ⟨rfl, hb.out⟩
end Go.Proofs.Ytojedpahaifjgaa
