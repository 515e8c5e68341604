/- Layers: New, Want, Take, Goes. No condition but the numbers' bounds. The reference's chooser (tenailleref23): New, Want, Take; by the program's plain functions wantN, takeN. No condition but that there is a layer. -/
import Derived.Test.YtojedpahaifjgaaGKi
import Derived.Test.YtojedpahaifjgaaGEl
namespace Go.Proofs.Ytojedpahaifjgaa
open Go.RowKit
def chC (many wanted goes : Int) : Array Value := #[.int .i64 many, .int .i64 wanted, .int .i64 goes]
def thereN (many layer : Int) : Bool := decide (0 ≤ layer) && decide (layer < many)
def wantN (many wanted goes layer : Int) : Nat × Int × Int :=
 if layer ≠ -1 ∧ thereN many layer = false then (9, wanted, goes) else (0, layer, if layer = -1 then -1 else goes)
def takeN (many wanted goes layer : Int) (key : Bool) : Bool × Bool × Int :=
 if thereN many layer = false then (false, false, goes)
 else if layer = goes then (true, false, layer)
 else if layer = wanted ∧ key = true then (true, true, layer) else (false, false, goes)
set_option maxRecDepth 100000 in
set_option maxHeartbeats 8000000 in
theorem lnew_any (many : Int) (h : 1 ≤ many ∧ many ≤ 4) (w : World) :
  Calls Try.prog 32 #[.int .i64 many] w fun e w' => e = .returned (.pointer (some ⟨w.heap.size, 0, none⟩)) ∧ HpB w' w.heap.size (.cells (chC many (-1) (-1)) 112) ∧ BW w w' := by
 have d0 : decide (many < 1) = false := by simp; omega
 have d1 : decide (4 < many) = false := by simp; omega
 go_enter Try.func32, Try.ntmps32
 go_wp2_with fail
 go_ret
 exact ⟨rfl, HpB.new w _, (BW.refl w).alloc⟩
set_option maxRecDepth 100000 in
set_option maxHeartbeats 8000000 in
theorem there_any (gc : Nat) (many layer : Int) (w : World) (h : w.cell? ⟨gc, 0, none⟩ = some (.int .i64 many)) :
  Calls Try.prog 37 #[.pointer (some ⟨gc, 0, none⟩), .int .i64 layer] w fun e w' => e = .returned (.bool (thereN many layer)) ∧ w' = w := by
 have e : thereN many layer = (decide (0 ≤ layer) && decide (layer < many)) := rfl
 generalize thereN many layer = b at *
 cases h1 : decide (0 ≤ layer) with
 | true =>
  rw [h1] at e
  have e2 := Lib.hid e
  clear e
  go_enter Try.func37, Try.ntmps37
  go_wp2_with fail
  go_ret
  exact ⟨by rw [e2.out]; rfl, rfl⟩
 | false =>
  rw [h1] at e
  have e2 := Lib.hid e
  clear e
  go_enter Try.func37, Try.ntmps37
  go_wp2_with fail
  go_ret
  exact ⟨by rw [e2.out]; rfl, rfl⟩
set_option maxRecDepth 100000 in
set_option maxHeartbeats 8000000 in
theorem goes_any (gc : Nat) (many wanted goes : Int) (w : World) (h : HpB w gc (.cells (chC many wanted goes) 112)) :
  Calls Try.prog 10 #[.pointer (some ⟨gc, 0, none⟩)] w fun e w' => e = .returned (.int .i64 goes) ∧ w' = w := by
 have z := (hp_cell h 2).trans (show _ = some (.int .i64 goes) from rfl)
 clear h
 go_enter Try.func10, Try.ntmps10
 go_wp2_with fail
 go_ret
 exact ⟨rfl, rfl⟩
set_option maxRecDepth 100000 in
set_option maxHeartbeats 8000000 in
theorem want_any (gc : Nat) (many wanted goes layer : Int) (w : World) (h : HpB w gc (.cells (chC many wanted goes) 112)) :
  Calls Try.prog 9 #[.pointer (some ⟨gc, 0, none⟩), .int .i64 layer] w fun e w' => e = .returned (.int .i64 ((wantN many wanted goes layer).1 : Nat)) ∧ HpB w' gc (.cells (chC many (wantN many wanted goes layer).2.1 (wantN many wanted goes layer).2.2) 112) ∧ Still [gc] w w' := by
 obtain ⟨R, hR⟩ : ∃ R, wantN many wanted goes layer = R := ⟨_, rfl⟩
 rw [hR]
 unfold wantN at hR
 have z0 := (hp_cell h 0).trans (show _ = some (.int .i64 many) from rfl)
 have z1 := (hp_cell h 1).trans (show _ = some (.int .i64 wanted) from rfl)
 have z2 := (hp_cell h 2).trans (show _ = some (.int .i64 goes) from rfl)
 have y1 := hp_frz h 1
 have y2 := hp_frz h 2
 have T1 := still_sc w gc 1 (.int .i64 layer)
 have P1 : HpB (w.setCell ⟨gc, 1, none⟩ (.int .i64 layer)) gc (.cells (chC many layer goes) 112) := hp_set h 1 _
 have y3 := hp_frz P1 2
 have T2 := T1.trans (still_sc (w.setCell ⟨gc, 1, none⟩ (.int .i64 layer)) gc 2 (.int .i64 (-1)))
 have P2 : HpB ((w.setCell ⟨gc, 1, none⟩ (.int .i64 layer)).setCell ⟨gc, 2, none⟩ (.int .i64 (-1))) gc (.cells (chC many layer (-1)) 112) := hp_set P1 2 _
 have hh := h
 by_cases h1 : layer = -1
 ·have d1 : (layer != -1) = false := by simpa using h1
  have d2 : (layer == -1) = true := by simpa using h1
  rw [if_neg (by rintro ⟨h, -⟩; exact h h1), if_pos h1] at hR
  replace T1 := Lib.hid T1
  replace P1 := Lib.hid P1
  replace T2 := Lib.hid T2
  replace P2 := Lib.hid P2
  replace hR := Lib.hid hR
  replace h1 := Lib.hid h1
  replace hh := Lib.hid hh
  replace h := Lib.hid h
  go_enter Try.func9, Try.ntmps9
  go_wp2_with fail
  go_ret
  rw [← hR.out]
  exact ⟨rfl, P2.out, T2.out⟩
 ·have d1 : (layer != -1) = true := by simpa using h1
  have d2 : (layer == -1) = false := by simpa using h1
  have c := Lib.hid (there_any gc many layer w z0)
  cases ht : thereN many layer with
  | true =>
   rw [ht] at c
   rw [if_neg (by rintro ⟨-, h⟩; rw [ht] at h; cases h), if_neg h1] at hR
   replace T1 := Lib.hid T1
   replace P1 := Lib.hid P1
   replace T2 := Lib.hid T2
   replace P2 := Lib.hid P2
   replace hR := Lib.hid hR
   replace h1 := Lib.hid h1
   replace hh := Lib.hid hh
   replace h := Lib.hid h
   replace ht := Lib.hid ht
   go_enter Try.func9, Try.ntmps9
   go_wp2_with fail
   refine c.out.mono ?_
   rintro e w1 ⟨rfl, rfl⟩
   dsimp only
   go_wp2_with fail
   go_ret
   rw [← hR.out]
   exact ⟨rfl, P1.out, T1.out⟩
  | false =>
   rw [ht] at c
   rw [if_pos ⟨h1, ht⟩] at hR
   replace T1 := Lib.hid T1
   replace P1 := Lib.hid P1
   replace T2 := Lib.hid T2
   replace P2 := Lib.hid P2
   replace hR := Lib.hid hR
   replace h1 := Lib.hid h1
   replace hh := Lib.hid hh
   replace h := Lib.hid h
   replace ht := Lib.hid ht
   go_enter Try.func9, Try.ntmps9
   go_wp2_with fail
   refine c.out.mono ?_
   rintro e w1 ⟨rfl, rfl⟩
   dsimp only
   go_wp2_with fail
   go_ret
   rw [← hR.out]
   exact ⟨rfl, hh.out, Still.refl _ _⟩
set_option maxRecDepth 100000 in
set_option maxHeartbeats 8000000 in
theorem going_any (gc : Nat) (goes layer : Int) (key : Bool) (w : World) (h : w.cell? ⟨gc, 2, none⟩ = some (.int .i64 goes)) :
  Calls Try.prog 73 #[.pointer (some ⟨gc, 0, none⟩), .int .i64 layer, .bool key] w fun e w' => e = .returned (.bool (layer == goes)) ∧ w' = w := by
 go_enter Try.func73, Try.ntmps73
 go_wp2_with fail
 go_ret
 exact ⟨rfl, rfl⟩
set_option maxRecDepth 100000 in
set_option maxHeartbeats 8000000 in
theorem turns_any (gc : Nat) (wanted layer : Int) (key : Bool) (w : World) (h : w.cell? ⟨gc, 1, none⟩ = some (.int .i64 wanted)) :
  Calls Try.prog 74 #[.pointer (some ⟨gc, 0, none⟩), .int .i64 layer, .bool key] w fun e w' => e = .returned (.bool (layer == wanted && key)) ∧ w' = w := by
 cases h1 : (layer == wanted) with
 | true =>
  go_enter Try.func74, Try.ntmps74
  go_wp2_with fail
  go_ret
  exact ⟨by simp, rfl⟩
 | false =>
  go_enter Try.func74, Try.ntmps74
  go_wp2_with fail
  go_ret
  exact ⟨by simp, rfl⟩
theorem ix2_0 (a b : Value) (w : World) : (Instr.index 145 (.agg #[a, b]) (.int .i64 0)).run Try.prog w = .ok a w := by kernel_rfl
theorem ix2_1 (a b : Value) (w : World) : (Instr.index 145 (.agg #[a, b]) (.int .i64 1)).run Try.prog w = .ok b w := by kernel_rfl
set_option maxRecDepth 100000 in
set_option maxHeartbeats 8000000 in
theorem take_lay (gc : Nat) (many wanted goes layer : Int) (key : Bool) (w : World) (h : HpB w gc (.cells (chC many wanted goes) 112)) :
  Calls Try.prog 38 #[.pointer (some ⟨gc, 0, none⟩), .int .i64 layer, .bool key] w fun e w' => e = .returned (.tuple #[.bool (takeN many wanted goes layer key).1, .bool (takeN many wanted goes layer key).2.1]) ∧ HpB w' gc (.cells (chC many wanted (takeN many wanted goes layer key).2.2) 112) ∧ Still [gc] w w' := by
 obtain ⟨R, hR⟩ : ∃ R, takeN many wanted goes layer key = R := ⟨_, rfl⟩
 rw [hR]
 unfold takeN at hR
 have hmf : ∀ (fn : Fn) (first cap : Array Value) (w : World), (Instr.makeFunc fn first cap).run Try.prog w = .ok (.func fn first cap) w := fun _ _ _ _ => rfl
 have z0 := (hp_cell h 0).trans (show _ = some (.int .i64 many) from rfl)
 have z1 := (hp_cell h 1).trans (show _ = some (.int .i64 wanted) from rfl)
 have z2 := (hp_cell h 2).trans (show _ = some (.int .i64 goes) from rfl)
 have y2 := hp_frz h 2
 have T1 := still_sc w gc 2 (.int .i64 layer)
 have P1 : HpB (w.setCell ⟨gc, 2, none⟩ (.int .i64 layer)) gc (.cells (chC many wanted layer) 112) := hp_set h 2 _
 have hi0 := fun (w : World) => ix2_0 (.func (.func 73) #[.pointer (some ⟨gc, 0, none⟩)] #[]) (.func (.func 74) #[.pointer (some ⟨gc, 0, none⟩)] #[]) w
 have hi1 := fun (w : World) => ix2_1 (.func (.func 73) #[.pointer (some ⟨gc, 0, none⟩)] #[]) (.func (.func 74) #[.pointer (some ⟨gc, 0, none⟩)] #[]) w
 have c1 := Lib.hid (there_any gc many layer w z0)
 have c2 := Lib.hid (going_any gc goes layer key w z2)
 have c3 := Lib.hid (turns_any gc wanted layer key w z1)
 replace h := Lib.hid h
 replace T1 := Lib.hid T1
 replace P1 := Lib.hid P1
 cases ht : thereN many layer with
 | false =>
  rw [ht] at c1
  rw [if_pos ht] at hR
  replace hR := Lib.hid hR
  replace ht := Lib.hid ht
  go_enter Try.func38, Try.ntmps38
  go_wp2_with fail
  refine c1.out.mono ?_
  rintro e w1 ⟨rfl, rfl⟩
  dsimp only
  go_wp2_with fail
  go_ret2
  rw [← hR.out]
  exact ⟨rfl, h.out, Still.refl _ _⟩
 | true =>
  rw [ht] at c1
  rw [if_neg (by rw [ht]; decide)] at hR
  replace ht := Lib.hid ht
  by_cases h1 : layer = goes
  ·have d1 : (layer == goes) = true := by simpa using h1
   rw [d1] at c2
   rw [if_pos h1] at hR
   replace hR := Lib.hid hR
   replace h1 := Lib.hid h1
   replace d1 := Lib.hid d1
   go_enter Try.func38, Try.ntmps38
   go_wp2_with fail
   refine c1.out.mono ?_
   rintro e w1 ⟨rfl, rfl⟩
   dsimp only
   go_upto_region 4 with (fail)
   go_loopg [23] 1 (fun m' i wx => m' = 1 ∧ i = .int .i64 0 ∧ Hid (w1 = wx))
   case atStart => exact ⟨rfl, rfl, rfl⟩
   case round =>
    obtain ⟨rfl, rfl, hw⟩ := hrel
    obtain rfl := hw.out
    go_wp2_with fail
    refine c2.out.mono ?_
    rintro e w2 ⟨rfl, rfl⟩
    dsimp only
    go_wp2_with fail
    go_ret2
    rw [← hR.out]
    exact ⟨rfl, P1.out, T1.out⟩
  ·have d1 : (layer == goes) = false := by simpa using h1
   rw [d1] at c2
   rw [if_neg h1] at hR
   cases htn : (layer == wanted && key) with
   | true =>
    rw [htn] at c3
    have h4 : layer = wanted ∧ key = true := by simpa using htn
    rw [if_pos h4] at hR
    replace hR := Lib.hid hR
    replace h1 := Lib.hid h1
    replace d1 := Lib.hid d1
    replace h4 := Lib.hid h4
    replace htn := Lib.hid htn
    go_enter Try.func38, Try.ntmps38
    go_wp2_with fail
    refine c1.out.mono ?_
    rintro e w1 ⟨rfl, rfl⟩
    dsimp only
    go_upto_region 4 with (fail)
    go_loopg [23] 2 (fun m' i wx => ∃ k : Nat, m' = 2 - k ∧ k ≤ 1 ∧ i = .int .i64 (k : Nat) ∧ Hid (w1 = wx))
    case atStart => exact ⟨0, rfl, by omega, rfl, rfl⟩
    case round =>
     obtain ⟨k, rfl, hk, rfl, hw⟩ := hrel
     obtain rfl := hw.out
     obtain rfl | rfl : k = 0 ∨ k = 1 := by omega
     ·go_wp2_with fail
      refine c2.out.mono ?_
      rintro e w2 ⟨rfl, rfl⟩
      dsimp only
      go_wp2_with fail
      go_roundg 1
      case measure => omega
      case rel => exact ⟨1, rfl, by omega, rfl, rfl⟩
     ·go_wp2_with fail
      refine c3.out.mono ?_
      rintro e w2 ⟨rfl, rfl⟩
      dsimp only
      go_wp2_with fail
      go_ret2
      rw [← hR.out]
      exact ⟨rfl, P1.out, T1.out⟩
   | false =>
    rw [htn] at c3
    have h4 : ¬ (layer = wanted ∧ key = true) := by
     rintro ⟨a, b⟩
     rw [a, b] at htn
     simp at htn
    rw [if_neg h4] at hR
    replace hR := Lib.hid hR
    replace h1 := Lib.hid h1
    replace d1 := Lib.hid d1
    replace h4 := Lib.hid h4
    replace htn := Lib.hid htn
    go_enter Try.func38, Try.ntmps38
    go_wp2_with fail
    refine c1.out.mono ?_
    rintro e w1 ⟨rfl, rfl⟩
    dsimp only
    go_upto_region 4 with (fail)
    go_loopg [23] 2 (fun m' i wx => ∃ k : Nat, m' = 2 - k ∧ k ≤ 2 ∧ i = .int .i64 (k : Nat) ∧ Hid (w1 = wx))
    case atStart => exact ⟨0, rfl, by omega, rfl, rfl⟩
    case round =>
     obtain ⟨k, rfl, hk, rfl, hw⟩ := hrel
     obtain rfl := hw.out
     obtain rfl | rfl | rfl : k = 0 ∨ k = 1 ∨ k = 2 := by omega
     ·go_wp2_with fail
      refine c2.out.mono ?_
      rintro e w2 ⟨rfl, rfl⟩
      dsimp only
      go_wp2_with fail
      go_roundg 1
      case measure => omega
      case rel => exact ⟨1, rfl, by omega, rfl, rfl⟩
     ·go_wp2_with fail
      refine c3.out.mono ?_
      rintro e w2 ⟨rfl, rfl⟩
      dsimp only
      go_wp2_with fail
      go_roundg 0
      case measure => omega
      case rel => exact ⟨2, rfl, by omega, rfl, rfl⟩
     ·go_wp2_with fail
      go_ret2
      rw [← hR.out]
      exact ⟨rfl, h.out, Still.refl _ _⟩
end Go.Proofs.Ytojedpahaifjgaa

namespace Go.Proofs.Ytojedpahaifjgaa
open Go.RowKit
set_option maxRecDepth 100000 in
set_option maxHeartbeats 8000000 in
theorem c23_new (many : Int) (w : World) :
  Calls Try.prog 51 #[.int .i64 many] w fun e w' => e = .returned (.pointer (some ⟨w.heap.size, 0, none⟩)) ∧ HpB w' w.heap.size (.cells (chC many (-1) (-1)) 102) ∧ BW w w' := by
 go_enter Try.func51, Try.ntmps51
 go_wp2_with fail
 go_ret
 exact ⟨rfl, HpB.new w _, (BW.refl w).alloc⟩
set_option maxRecDepth 100000 in
set_option maxHeartbeats 8000000 in
theorem c23_want (gc : Nat) (many wanted goes layer : Int) (hm : 1 ≤ many) (w : World) (h : HpB w gc (.cells (chC many wanted goes) 102)) :
  Calls Try.prog 21 #[.pointer (some ⟨gc, 0, none⟩), .int .i64 layer] w fun e w' => e = .returned (.int .i64 ((wantN many wanted goes layer).1 : Nat)) ∧ HpB w' gc (.cells (chC many (wantN many wanted goes layer).2.1 (wantN many wanted goes layer).2.2) 102) ∧ Still [gc] w w' := by
 obtain ⟨R, hR⟩ : ∃ R, wantN many wanted goes layer = R := ⟨_, rfl⟩
 rw [hR]
 unfold wantN at hR
 have z0 := (hp_cell h 0).trans (show _ = some (.int .i64 many) from rfl)
 have z1 := (hp_cell h 1).trans (show _ = some (.int .i64 wanted) from rfl)
 have z2 := (hp_cell h 2).trans (show _ = some (.int .i64 goes) from rfl)
 have y1 := hp_frz h 1
 have y2 := hp_frz h 2
 have T1 := still_sc w gc 1 (.int .i64 layer)
 have P1 : HpB (w.setCell ⟨gc, 1, none⟩ (.int .i64 layer)) gc (.cells (chC many layer goes) 102) := hp_set h 1 _
 have y3 := hp_frz P1 2
 have T2 := T1.trans (still_sc (w.setCell ⟨gc, 1, none⟩ (.int .i64 layer)) gc 2 (.int .i64 (-1)))
 have P2 : HpB ((w.setCell ⟨gc, 1, none⟩ (.int .i64 layer)).setCell ⟨gc, 2, none⟩ (.int .i64 (-1))) gc (.cells (chC many layer (-1)) 102) := hp_set P1 2 _
 have hh := h
 by_cases h1 : layer < -1
 ·have d1 : decide (layer < -1) = true := by simpa using h1
  have ht : thereN many layer = false := by unfold thereN; simp; omega
  rw [if_pos ⟨by omega, ht⟩] at hR
  replace T1 := Lib.hid T1
  replace P1 := Lib.hid P1
  replace T2 := Lib.hid T2
  replace P2 := Lib.hid P2
  replace hR := Lib.hid hR
  replace h1 := Lib.hid h1
  replace hh := Lib.hid hh
  replace h := Lib.hid h
  replace ht := Lib.hid ht
  go_enter Try.func21, Try.ntmps21
  go_wp2_with fail
  go_ret
  rw [← hR.out]
  exact ⟨rfl, hh.out, Still.refl _ _⟩
 ·have d1 : decide (layer < -1) = false := by simpa using h1
  by_cases h2 : many ≤ layer
  ·have d2 : decide (many ≤ layer) = true := by simpa using h2
   have ht : thereN many layer = false := by unfold thereN; simp; omega
   rw [if_pos ⟨by omega, ht⟩] at hR
   replace T1 := Lib.hid T1
   replace P1 := Lib.hid P1
   replace T2 := Lib.hid T2
   replace P2 := Lib.hid P2
   replace hR := Lib.hid hR
   replace h1 := Lib.hid h1
   replace h2 := Lib.hid h2
   replace hh := Lib.hid hh
   replace h := Lib.hid h
   replace ht := Lib.hid ht
   replace hm := Lib.hid hm
   go_enter Try.func21, Try.ntmps21
   go_wp2_with fail
   go_ret
   rw [← hR.out]
   exact ⟨rfl, hh.out, Still.refl _ _⟩
  ·have d2 : decide (many ≤ layer) = false := by simpa using h2
   by_cases h3 : layer = -1
   ·have d3 : (layer == -1) = true := by simpa using h3
    rw [if_neg (by rintro ⟨h, -⟩; exact h h3), if_pos h3] at hR
    replace T1 := Lib.hid T1
    replace P1 := Lib.hid P1
    replace T2 := Lib.hid T2
    replace P2 := Lib.hid P2
    replace hR := Lib.hid hR
    replace h1 := Lib.hid h1
    replace h2 := Lib.hid h2
    replace h3 := Lib.hid h3
    replace hh := Lib.hid hh
    replace h := Lib.hid h
    replace hm := Lib.hid hm
    go_enter Try.func21, Try.ntmps21
    go_wp2_with fail
    go_ret
    rw [← hR.out]
    exact ⟨rfl, P2.out, T2.out⟩
   ·have d3 : (layer == -1) = false := by simpa using h3
    have ht : thereN many layer = true := by unfold thereN; simp; omega
    rw [if_neg (by rintro ⟨-, h⟩; rw [ht] at h; cases h), if_neg h3] at hR
    replace T1 := Lib.hid T1
    replace P1 := Lib.hid P1
    replace T2 := Lib.hid T2
    replace P2 := Lib.hid P2
    replace hR := Lib.hid hR
    replace h1 := Lib.hid h1
    replace h2 := Lib.hid h2
    replace h3 := Lib.hid h3
    replace hh := Lib.hid hh
    replace h := Lib.hid h
    replace ht := Lib.hid ht
    replace hm := Lib.hid hm
    go_enter Try.func21, Try.ntmps21
    go_wp2_with fail
    go_ret
    rw [← hR.out]
    exact ⟨rfl, P1.out, T1.out⟩
set_option maxRecDepth 100000 in
set_option maxHeartbeats 8000000 in
theorem c23_take (gc : Nat) (many wanted goes layer : Int) (key : Bool) (w : World) (h : HpB w gc (.cells (chC many wanted goes) 102)) :
  Calls Try.prog 59 #[.pointer (some ⟨gc, 0, none⟩), .int .i64 layer, .bool key] w fun e w' => e = .returned (.tuple #[.bool (takeN many wanted goes layer key).1, .bool (takeN many wanted goes layer key).2.1]) ∧ HpB w' gc (.cells (chC many wanted (takeN many wanted goes layer key).2.2) 102) ∧ Still [gc] w w' := by
 obtain ⟨R, hR⟩ : ∃ R, takeN many wanted goes layer key = R := ⟨_, rfl⟩
 rw [hR]
 unfold takeN at hR
 have z0 := (hp_cell h 0).trans (show _ = some (.int .i64 many) from rfl)
 have z1 := (hp_cell h 1).trans (show _ = some (.int .i64 wanted) from rfl)
 have z2 := (hp_cell h 2).trans (show _ = some (.int .i64 goes) from rfl)
 have y2 := hp_frz h 2
 have T1 := still_sc w gc 2 (.int .i64 layer)
 have P1 : HpB (w.setCell ⟨gc, 2, none⟩ (.int .i64 layer)) gc (.cells (chC many wanted layer) 102) := hp_set h 2 _
 replace h := Lib.hid h
 replace T1 := Lib.hid T1
 replace P1 := Lib.hid P1
 by_cases h1 : layer < 0
 ·have d1 : decide (layer < 0) = true := by simpa using h1
  have ht : thereN many layer = false := by unfold thereN; simp; omega
  rw [if_pos ht] at hR
  replace hR := Lib.hid hR
  replace h1 := Lib.hid h1
  replace ht := Lib.hid ht
  go_enter Try.func59, Try.ntmps59
  go_wp2_with fail
  go_ret2
  rw [← hR.out]
  exact ⟨rfl, h.out, Still.refl _ _⟩
 ·have d1 : decide (layer < 0) = false := by simpa using h1
  by_cases h2 : many ≤ layer
  ·have d2 : decide (many ≤ layer) = true := by simpa using h2
   have ht : thereN many layer = false := by unfold thereN; simp; omega
   rw [if_pos ht] at hR
   replace hR := Lib.hid hR
   replace h1 := Lib.hid h1
   replace h2 := Lib.hid h2
   replace ht := Lib.hid ht
   go_enter Try.func59, Try.ntmps59
   go_wp2_with fail
   go_ret2
   rw [← hR.out]
   exact ⟨rfl, h.out, Still.refl _ _⟩
  ·have d2 : decide (many ≤ layer) = false := by simpa using h2
   have ht : thereN many layer = true := by unfold thereN; simp; omega
   rw [if_neg (by rw [ht]; decide)] at hR
   by_cases h3 : goes = layer
   ·have d3 : (goes == layer) = true := by simpa using h3
    rw [if_pos h3.symm] at hR
    have hg : Hid (HpB w gc (.cells (chC many wanted layer) 102)) := Lib.hid (by rw [← h3]; exact h.out)
    replace hR := Lib.hid hR
    replace h1 := Lib.hid h1
    replace h2 := Lib.hid h2
    replace h3 := Lib.hid h3
    replace ht := Lib.hid ht
    go_enter Try.func59, Try.ntmps59
    go_wp2_with fail
    go_ret2
    rw [← hR.out]
    exact ⟨rfl, hg.out, Still.refl _ _⟩
   ·have d3 : (goes == layer) = false := by simpa using h3
    rw [if_neg (fun e => h3 e.symm)] at hR
    by_cases h4 : wanted = layer
    ·have d4 : (wanted == layer) = true := by simpa using h4
     cases key with
     | true =>
      rw [if_pos ⟨h4.symm, rfl⟩] at hR
      replace hR := Lib.hid hR
      replace h1 := Lib.hid h1
      replace h2 := Lib.hid h2
      replace h3 := Lib.hid h3
      replace h4 := Lib.hid h4
      replace ht := Lib.hid ht
      go_enter Try.func59, Try.ntmps59
      go_wp2_with fail
      go_ret2
      rw [← hR.out]
      exact ⟨rfl, P1.out, T1.out⟩
     | false =>
      rw [if_neg (fun e => by cases e.2)] at hR
      replace hR := Lib.hid hR
      replace h1 := Lib.hid h1
      replace h2 := Lib.hid h2
      replace h3 := Lib.hid h3
      replace h4 := Lib.hid h4
      replace ht := Lib.hid ht
      go_enter Try.func59, Try.ntmps59
      go_wp2_with fail
      go_ret2
      rw [← hR.out]
      exact ⟨rfl, h.out, Still.refl _ _⟩
    ·have d4 : (wanted == layer) = false := by simpa using h4
     rw [if_neg (fun e => h4 e.1.symm)] at hR
     replace hR := Lib.hid hR
     replace h1 := Lib.hid h1
     replace h2 := Lib.hid h2
     replace h3 := Lib.hid h3
     replace h4 := Lib.hid h4
     replace ht := Lib.hid ht
     cases key with
     | true =>
      go_enter Try.func59, Try.ntmps59
      go_wp2_with fail
      go_ret2
      rw [← hR.out]
      exact ⟨rfl, h.out, Still.refl _ _⟩
     | false =>
      go_enter Try.func59, Try.ntmps59
      go_wp2_with fail
      go_ret2
      rw [← hR.out]
      exact ⟨rfl, h.out, Still.refl _ _⟩
end Go.Proofs.Ytojedpahaifjgaa
