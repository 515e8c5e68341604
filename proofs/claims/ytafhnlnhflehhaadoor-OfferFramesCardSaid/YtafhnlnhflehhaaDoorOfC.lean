/- Offers: below, twin, the bound on sources, is an offer great. No condition but the sizes'. -/
import Derived.Test.YtafhnlnhflehhaaDoorOfB
namespace Go.Proofs.YtafhnlnhflehhaaDoor
open Go.RowKit
def notSm (b x : Int) : Bool := decide (x < 0) || decide (b ≤ x)
set_option maxRecDepth 100000 in
set_option maxHeartbeats 8000000 in
theorem below1_any (g : Nat) (b x : Int) (w : World) (h : w.cell? ⟨g, 0, none⟩ = some (.int .i64 b)) :
  Calls Tryd.prog 34 #[.int .i64 x, .pointer (some ⟨g, 0, none⟩)] w fun e w' => e = .returned (.bool (notSm b x)) ∧ BW w w' := by
 obtain ⟨r, hr⟩ : ∃ r, notSm b x = r := ⟨_, rfl⟩
 rw [hr]
 unfold notSm at hr
 cases d1 : decide (x < 0) with
 | true =>
  rw [d1] at hr
  replace hr := Lib.hid hr
  go_enter Tryd.func34, Tryd.ntmps34
  go_wp2_with fail
  go_ret
  exact ⟨by rw [← hr.out]; rfl, BW.refl _⟩
 | false =>
  rw [d1] at hr
  replace hr := Lib.hid hr
  go_enter Tryd.func34, Tryd.ntmps34
  go_wp2_with fail
  go_ret
  exact ⟨by rw [← hr.out]; rfl, BW.refl _⟩
theorem below1_enter (args : Array Value) (w : World) : (callFunc 34 args).run Tryd.prog w = .ok (.enter 34 args) w := by kernel_rfl
theorem twin1_enter (args : Array Value) (w : World) : (callFunc 36 args).run Tryd.prog w = .ok (.enter 36 args) w := by kernel_rfl
theorem src1_enter (args : Array Value) (w : World) : (callFunc 40 args).run Tryd.prog w = .ok (.enter 40 args) w := by kernel_rfl
set_option maxRecDepth 100000 in
set_option maxHeartbeats 8000000 in
theorem below_any (base n : Nat) (v : Value) (L : List Int) (b : Int) (w : World) (h : SQ I1 w base v n L) (hn : n ≤ 1000000) :
  Calls Tryd.prog 22 #[.int .i64 b, v] w fun e w' => e = .returned (.bool (!L.any (notSm b))) ∧ BW w w' := by
 obtain ⟨_, _, rfl, _, _⟩ := h.len
 have BA : BW w (w.alloc (.cells #[.int .i64 b] 3)) := (BW.refl w).alloc
 have X := hp_cell (HpB.new w (.cells #[.int .i64 b] 3)) 0
 have cH := fun w1 (hb : BW w w1) (g : Nat) (hx : w1.cell? ⟨g, 0, none⟩ = some (.int .i64 b)) => hasI base n _ L 34 [.pointer (some ⟨g, 0, none⟩)] (notSm b) w1 (h.bw hb) hn (fun x _ wx hb2 => below1_any g b x wx (hb2.cell hx)) below1_enter
 generalize L.any (notSm b) = r at *
 replace BA := Lib.hid BA
 replace cH := Lib.hid cH
 clear h
 go_enter Tryd.func22, Tryd.ntmps22
 go_upto_region 1 with (fail)
 generalize w.alloc _ = w1 at *
 generalize w.heap.size = g at *
 replace X := Lib.hid X
 go_wp2_with fail
 refine Calls.mono (cH.out w1 BA.out g X.out) ?_
 rintro e w2 ⟨rfl, hb⟩
 replace hb := Lib.hid (BA.out.trans hb)
 dsimp only
 go_wp2_with fail
 go_ret
 exact ⟨rfl, hb.out⟩
set_option maxRecDepth 100000 in
set_option maxHeartbeats 8000000 in
theorem src1_any (x : Nat) (w : World) :
  Calls Tryd.prog 40 #[.int .u32 (x : Nat)] w fun e w' => e = .returned (.bool (decide (1048576 ≤ (x : Int)))) ∧ BW w w' := by
 go_enter Tryd.func40, Tryd.ntmps40
 go_wp2_with fail
 go_ret
 exact ⟨rfl, BW.refl _⟩
def twinB (x y : HearD) : Bool := (x.o == y.o) && (x.t == y.t)
set_option maxRecDepth 100000 in
set_option maxHeartbeats 8000000 in
theorem twin1_any (g : Nat) (x y : HearD) (w : World) (h : HpB w g (.cells #[.int .i64 x.o, .int .i64 x.t, .int .i64 x.l] 41)) :
  Calls Tryd.prog 36 #[.agg #[.int .i64 y.o, .int .i64 y.t, .int .i64 y.l], .pointer (some ⟨g, 0, none⟩)] w fun e w' => e = .returned (.bool (twinB x y)) ∧ BW w w' := by
 obtain ⟨r, hr⟩ : ∃ r, twinB x y = r := ⟨_, rfl⟩
 rw [hr]
 unfold twinB at hr
 obtain ⟨xo, xt, xl⟩ := x
 obtain ⟨yo, yt, yl⟩ := y
 dsimp only at hr h ⊢
 have BA : BW w (w.alloc (.cells #[.int .i64 yo, .int .i64 yt, .int .i64 yl] 41)) := (BW.refl w).alloc
 have Y := HpB.new w (.cells #[.int .i64 yo, .int .i64 yt, .int .i64 yl] 41)
 have X := h.bw BA
 replace BA := Lib.hid BA
 clear h
 cases d1 : (xo == yo) with
 | true =>
  rw [d1] at hr
  replace hr := Lib.hid hr
  go_enter Tryd.func36, Tryd.ntmps36
  go_upto_region 1 with (fail)
  generalize w.alloc _ = w1 at *
  generalize w.heap.size = gy at *
  have z0 := hp_cell (X) 0
  have z1 := hp_cell (X) 1
  have z2 := hp_cell (X) 2
  simp only [List.getElem?_toArray, List.getElem?_cons_zero, List.getElem?_cons_succ] at z0 z1 z2
  have y0 := hp_cell (Y) 0
  have y1 := hp_cell (Y) 1
  have y2 := hp_cell (Y) 2
  simp only [List.getElem?_toArray, List.getElem?_cons_zero, List.getElem?_cons_succ] at y0 y1 y2
  go_wp2_with fail
  go_ret
  exact ⟨by rw [← hr.out]; rfl, BA.out⟩
 | false =>
  rw [d1] at hr
  replace hr := Lib.hid hr
  go_enter Tryd.func36, Tryd.ntmps36
  go_upto_region 1 with (fail)
  generalize w.alloc _ = w1 at *
  generalize w.heap.size = gy at *
  have z0 := hp_cell (X) 0
  have z1 := hp_cell (X) 1
  have z2 := hp_cell (X) 2
  simp only [List.getElem?_toArray, List.getElem?_cons_zero, List.getElem?_cons_succ] at z0 z1 z2
  have y0 := hp_cell (Y) 0
  have y1 := hp_cell (Y) 1
  have y2 := hp_cell (Y) 2
  simp only [List.getElem?_toArray, List.getElem?_cons_zero, List.getElem?_cons_succ] at y0 y1 y2
  go_wp2_with fail
  go_ret
  exact ⟨by rw [← hr.out]; rfl, BA.out⟩
set_option maxRecDepth 100000 in
set_option maxHeartbeats 8000000 in
theorem twin_any (x : HearD) (w : World) :
  Calls Tryd.prog 24 #[.agg #[.int .i64 x.o, .int .i64 x.t, .int .i64 x.l]] w fun e w' => ∃ g, e = .returned (.func (.func 36) #[] #[.pointer (some ⟨g, 0, none⟩)]) ∧ HpB w' g (.cells #[.int .i64 x.o, .int .i64 x.t, .int .i64 x.l] 41) ∧ BW w w' := by
 have BA : BW w (w.alloc (.cells #[.int .i64 x.o, .int .i64 x.t, .int .i64 x.l] 41)) := (BW.refl w).alloc
 have X := HpB.new w (.cells #[.int .i64 x.o, .int .i64 x.t, .int .i64 x.l] 41)
 replace BA := Lib.hid BA
 replace X := Lib.hid X
 go_enter Tryd.func24, Tryd.ntmps24
 go_wp2_with fail
 go_ret
 exact ⟨_, rfl, X.out, BA.out⟩
def GreatR (W : List WishD) (nW nH : Nat) (e : Ending) : Prop := ∃ b : Bool, e = .returned (.bool b) ∧ (b = false → (∀ i, i < nW → (wi W i).s.length ≤ 40) ∧ nW ≤ 40 ∧ nH ≤ 40)
set_option maxRecDepth 100000 in
set_option maxHeartbeats 8000000 in
theorem great48_any (cs : Array Value) (d : OffD) (sW : Option Addr) (cW : Nat) (sH : Option Addr) (cH : Nat) (w : World) (h : OffV w cs d sW cW sH cH) :
  Calls Tryd.prog 5 #[.agg cs] w fun e w' => GreatR d.W d.W.length d.H.length e ∧ BW w w' := by
 obtain ⟨rfl, hw, hh⟩ := h
 obtain ⟨seat, W, H⟩ := d
 unfold offC
 dsimp only at hw hh ⊢
 obtain ⟨_, _, he, hWc, hWm⟩ := hw.len
 cases he
 obtain ⟨_, _, he, hHc, hHm⟩ := hh.len
 cases he
 unfold maxLen at hWm hHm
 obtain ⟨nW, hnW⟩ : ∃ n, W.length = n := ⟨_, rfl⟩
 obtain ⟨nH, hnH⟩ : ∃ n, H.length = n := ⟨_, rfl⟩
 rw [hnW] at hw hWc ⊢
 rw [hnH] at hh hHc ⊢
 have BA : BW w (w.alloc (.cells #[.int .i64 seat, .slice sW nW cW, .slice sH nH cH] 25)) := (BW.refl w).alloc
 have X := Lib.hid (HpB.new w (.cells #[.int .i64 seat, .slice sW nW cW, .slice sH nH cH] 25))
 replace hw := Lib.hid (hw.bw BA)
 replace hnW := Lib.hid hnW
 replace hnH := Lib.hid hnH
 replace BA := Lib.hid BA
 clear hh
 go_enter Tryd.func5, Tryd.ntmps5
 go_upto_region 2 with (fail)
 generalize w.alloc _ = w1 at *
 generalize w.heap.size = g at *
 have z1 := (hp_cell X.out 1).trans (show _ = some (.slice sW nW cW) from rfl)
 have z2 := (hp_cell X.out 2).trans (show _ = some (.slice sH nH cH) from rfl)
 go_loopg [3] nW (fun m' i wx => ∃ k : Nat, m' = nW - k ∧ k ≤ nW ∧ i = .int .i64 (k : Nat) ∧ Hid (∀ i, i < k → (wi W i).s.length ≤ 40) ∧ w1 = wx)
 case atStart => exact ⟨0, by omega, by omega, rfl, Lib.hid (fun i hi => absurd hi (Nat.not_lt_zero _)), rfl⟩
 case round =>
  obtain ⟨k, rfl, hk, rfl, hA, rfl⟩ := hrel
  by_cases hkn : k < nW
  ·have dk : decide ((k : Int) < (nW : Int)) = true := by simp; omega
   obtain ⟨gw, ow, rfl, -, hc⟩ := wi_form hw.out (by omega)
   obtain ⟨s, m, cp, -, -, y2, hs⟩ := hc k (by rw [hnW.out]; exact hkn)
   have hsl : (wi W k).s.length = m := by rw [wi_get (by rw [hnW.out]; exact hkn)]; exact hs.1
   obtain ⟨_, _, he, hmc, hmm⟩ := hs.len
   cases he
   unfold maxLen at hmm
   clear hc hs
   by_cases hm : (40 : Int) < (m : Int)
   ·have dm : decide ((40 : Int) < (m : Int)) = true := decide_eq_true hm
    replace hsl := Lib.hid hsl
    go_wp2_with fail
    go_ret
    exact ⟨⟨_, rfl, fun e => by cases e⟩, BA.out⟩
   ·have dm : decide ((40 : Int) < (m : Int)) = false := decide_eq_false hm
    have hA2 : Hid (∀ i, i < k + 1 → (wi W i).s.length ≤ 40) := Lib.hid (fun i hi => by
     by_cases e : i < k
     ·exact hA.out i e
     ·obtain rfl : i = k := by omega
      omega)
    replace hsl := Lib.hid hsl
    go_wp2_with fail
    go_roundg (nW - (k + 1))
    case measure => omega
    case rel => exact ⟨k + 1, rfl, by omega, by push_cast; rfl, hA2, rfl⟩
  ·obtain rfl : k = nW := by omega
   have dk : decide ((k : Int) < (k : Int)) = false := by simp
   cases d1 : decide ((40 : Int) < (k : Int)) with
   | true =>
    go_wp2_with fail
    go_ret
    exact ⟨⟨_, rfl, fun e => by cases e⟩, BA.out⟩
   | false =>
    have h1 := of_decide_eq_false d1
    cases d2 : decide ((40 : Int) < (nH : Int)) with
    | true =>
     go_wp2_with fail
     go_ret
     exact ⟨⟨_, rfl, fun e => by cases e⟩, BA.out⟩
    | false =>
     have h2 := of_decide_eq_false d2
     replace h1 := Lib.hid h1
     replace h2 := Lib.hid h2
     go_wp2_with fail
     go_ret
     exact ⟨⟨_, rfl, fun _ => ⟨hA.out, by have := h1.out; omega, by have := h2.out; omega⟩⟩, BA.out⟩
end Go.Proofs.YtafhnlnhflehhaaDoor
