/- rtp.flag, rtp.may; the first bytes of a packet. No condition but the numbers' own bounds. -/
import Derived.Test.YtgiajnfmjpdodaaRtI
import Derived.Test.YtgiajnfmjpdodaaRtW
namespace Go.Proofs.Ytgiajnfmjpdodaa
open Go.RowKit

theorem PkV.made (w : World) (c : Array Value) : PkV (w.alloc (.cells c 28)) w.heap.size c := HpB.new w _
def fl (b : Bool) (x : Nat) : Nat := if b then x else 0
theorem or_all : (List.range 16).all (fun k => (bits .or .u8 128 (k : Int) == ((128 + k : Nat) : Int)) && (bits .or .u8 160 (k : Int) == ((160 + k : Nat) : Int)) && (bits .or .u8 144 (k : Int) == ((144 + k : Nat) : Int)) && (bits .or .u8 176 (k : Int) == ((176 + k : Nat) : Int))) = true := by kernel_rfl
theorem or_first (p x : Bool) (k : Nat) (hk : k < 16) : ∃ a1 a2 : Nat, bits .or .u8 128 (fl p 32 : Nat) = (a1 : Nat) ∧ bits .or .u8 (a1 : Nat) (fl x 16 : Nat) = (a2 : Nat) ∧ bits .or .u8 (a2 : Nat) (k : Nat) = ((128 + (if p = true then 32 else 0) + (if x = true then 16 else 0) + k : Nat) : Int) := by
  have a := List.all_eq_true.1 or_all k (List.mem_range.2 hk)
  rw [Bool.and_eq_true, Bool.and_eq_true, Bool.and_eq_true] at a
  obtain ⟨⟨⟨a1, a2⟩, a3⟩, a4⟩ := a
  cases p <;> cases x
  · exact ⟨128, 128, by kernel_rfl, by kernel_rfl, eq_of_beq a1⟩
  · exact ⟨128, 144, by kernel_rfl, by kernel_rfl, eq_of_beq a3⟩
  · exact ⟨160, 160, by kernel_rfl, by kernel_rfl, eq_of_beq a2⟩
  · exact ⟨160, 176, by kernel_rfl, by kernel_rfl, eq_of_beq a4⟩
theorem or2_all : (List.range 128).all (fun k => (bits .or .u8 (k : Int) 0 == ((k : Nat) : Int)) && (bits .or .u8 (k : Int) 128 == ((k + 128 : Nat) : Int))) = true := by kernel_rfl
theorem or_second (m : Bool) (k : Nat) (hk : k < 128) : bits .or .u8 (k : Nat) (fl m 128 : Nat) = ((k + (if m = true then 128 else 0) : Nat) : Int) := by
  have a := List.all_eq_true.1 or2_all k (List.mem_range.2 hk)
  rw [Bool.and_eq_true] at a
  cases m
  · exact eq_of_beq a.1
  · exact eq_of_beq a.2

set_option maxRecDepth 100000 in
set_option maxHeartbeats 8000000 in
theorem flag_ok (b : Bool) (x : Nat) (w : World) : Calls Try.prog 63 #[.bool b, .int .u8 (x : Nat)] w fun e w' => e = .returned (.int .u8 (fl b x : Nat)) ∧ w = w' := by
  cases b
  · go_enter Try.func63, Try.ntmps63
    go_wp2
    go_ret
    exact ⟨rfl, rfl⟩
  · go_enter Try.func63, Try.ntmps63
    go_wp2
    go_ret
    exact ⟨rfl, rfl⟩

set_option maxRecDepth 100000 in
set_option maxHeartbeats 8000000 in
theorem may_ok (c : Array Value) (d : RtpD) (w : World) (h : RtpV w c d) (wf : RtpWf d) : Calls Try.prog 62 #[.agg c] w fun e w' => e = .returned (.bool (mayN d)) ∧ BW w w' := by
  obtain ⟨so_, co, se, ce, sp, cp, rfl, N, E, D⟩ := h.open
  have l1 := N.len
  have l2 := E.len
  obtain ⟨mk, ty, sq, st, so, ot, xb, pf, ex, pl, pd⟩ := d
  have w1 := wf.typ
  have w2 := wf.profile
  dsimp only at *
  obtain ⟨_, _, e1, n1, m1⟩ := l1
  obtain ⟨_, _, e2, n2, m2⟩ := l2
  simp only [Value.slice.injEq, true_and] at e1 e2
  obtain ⟨rfl, rfl⟩ := e1
  obtain ⟨rfl, rfl⟩ := e2
  unfold maxLen at m1 m2
  have hm : mayN ⟨mk, ty, sq, st, so, ot, xb, pf, ex, pl, pd⟩ = decide (ty < 128 ∧ ot.length ≤ 15 ∧ ex.length % 4 = 0 ∧ ex.length ≤ 1020 ∧ (xb = true ∨ (ex.length = 0 ∧ pf = 0))) := rfl
  rw [hm]
  clear hm h wf N E D
  generalize ot.length = no at *
  generalize ex.length = ne at *
  generalize pl.length = np at *
  have P1 := PkV.made w (rtpC mk ty sq st so (.slice so_ no co) xb pf (.slice se ne ce) (.slice sp np cp) pd) 
  have B1 : Hid (BW w (w.alloc (.cells (rtpC mk ty sq st so (.slice so_ no co) xb pf (.slice se ne ce) (.slice sp np cp) pd) 28))) := (BW.refl w).alloc
  replace P1 := Lib.hid P1
  unfold rtpC at *
  go_enter Try.func62, Try.ntmps62
  go_upto_region 1 with (fail)
  generalize w.alloc (.cells #[.bool mk, .int .u8 (ty : Nat), .int .u16 (sq : Nat), .int .u32 (st : Nat), .int .u32 (so : Nat), .slice so_ no co, .bool xb, .int .u16 (pf : Nat), .slice se ne ce, .slice sp np cp, .int .u8 (pd : Nat)] 28) = w3 at *
  have z0 := hp_cell (P1.out) 0
  have z1 := hp_cell (P1.out) 1
  have z2 := hp_cell (P1.out) 2
  have z3 := hp_cell (P1.out) 3
  have z4 := hp_cell (P1.out) 4
  have z5 := hp_cell (P1.out) 5
  have z6 := hp_cell (P1.out) 6
  have z7 := hp_cell (P1.out) 7
  have z8 := hp_cell (P1.out) 8
  have z9 := hp_cell (P1.out) 9
  have z10 := hp_cell (P1.out) 10
  simp only [List.getElem?_toArray, List.getElem?_cons_zero, List.getElem?_cons_succ] at z0 z1 z2 z3 z4 z5 z6 z7 z8 z9 z10
  by_cases hA : ty < 128
  case neg =>
    have d1 : decide ((128 : Int) ≤ (ty : Int)) = true := by simp; omega
    go_wp2_with fail
    go_ret
    exact ⟨congrArg (fun b => Ending.returned (.bool b)) (decide_eq_false (by omega)).symm, B1.out⟩
  have d1 : decide ((128 : Int) ≤ (ty : Int)) = false := by simp; omega
  by_cases hB : no ≤ 15
  case neg =>
    have d2 : decide ((15 : Int) < (no : Int)) = true := by simp; omega
    go_wp2_with fail
    go_ret
    exact ⟨congrArg (fun b => Ending.returned (.bool b)) (decide_eq_false (by omega)).symm, B1.out⟩
  have d2 : decide ((15 : Int) < (no : Int)) = false := by simp; omega
  by_cases hC : ne % 4 = 0
  case neg =>
    have d3 : ((ne : Int) % 4 != 0) = true := by simp; omega
    go_wp2_with fail
    go_ret
    exact ⟨congrArg (fun b => Ending.returned (.bool b)) (decide_eq_false (by omega)).symm, B1.out⟩
  have d3 : ((ne : Int) % 4 != 0) = false := by simp; omega
  by_cases hD : ne ≤ 1020
  case neg =>
    have d4 : decide ((1020 : Int) < (ne : Int)) = true := by simp; omega
    go_wp2_with fail
    go_ret
    exact ⟨congrArg (fun b => Ending.returned (.bool b)) (decide_eq_false (by omega)).symm, B1.out⟩
  have d4 : decide ((1020 : Int) < (ne : Int)) = false := by simp; omega
  cases xb
  case true =>
    go_wp2_with fail
    go_ret
    exact ⟨rfl, B1.out⟩
  by_cases hE : ne = 0
  case neg =>
    have d5 : ((ne : Int) == 0) = false := by simp; omega
    go_wp2_with fail
    go_ret
    exact ⟨congrArg (fun b => Ending.returned (.bool b)) (decide_eq_false (by simp; omega)).symm, B1.out⟩
  have d5 : ((ne : Int) == 0) = true := by simp; omega
  by_cases hF : pf = 0
  case neg =>
    have d6 : ((pf : Int) == 0) = false := by simp; omega
    go_wp2_with fail
    go_ret
    exact ⟨congrArg (fun b => Ending.returned (.bool b)) (decide_eq_false (by simp; omega)).symm, B1.out⟩
  have d6 : ((pf : Int) == 0) = true := by simp; omega
  go_wp2_with fail
  go_ret
  exact ⟨congrArg (fun b => Ending.returned (.bool b)) (decide_eq_true ⟨hA, hB, hC, hD, .inr ⟨hE, hF⟩⟩).symm, B1.out⟩
end Go.Proofs.Ytgiajnfmjpdodaa
