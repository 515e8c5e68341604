/- Frames: Read. No condition but the sizes'. -/
import Derived.Test.YtcempndfbckcaaaGFr
import Derived.Test.YtcempndfbckcaaaIns
namespace Go.Proofs.Ytcempndfbckcaaa
open Go.RowKit

/-- The first k bytes, the capacity kept. -/
theorem sb_take {w : World} {a : Option Addr} {n cap : Nat} {l : List Nat} (h : SB w (.slice a n cap) n l) (k : Nat) (hk : k ≤ n) : SB w (.slice a k cap) k (l.take k) := by
  obtain ⟨_, _, he, h1, _⟩ := h.len
  cases he
  have := h.cut 0 k cap (by omega) hk (by omega) (Nat.le_refl _)
  rw [cutA_zero] at this
  exact this
theorem HpB.st1 {w : World} {z : Nat} {c : Array Value} {T : TypeId} (h : HpB w z (.cells c T)) (i : Nat) (u : Value) : HpB (w.setCell ⟨z, i, none⟩ u) z (.cells (c.setIfInBounds i u) T) := hp_set h i u
theorem slU32q : SlTy Try.prog 33 73 1 4 := SlTy.mk' Try.underlying33 (by kernel_rfl) (by decide)
def kindB (x : Nat) : Bool := decide (1 ≤ x) && decide (x ≤ 8)
theorem kind_any (x : Nat) (w : World) : Calls Try.prog 68 #[.int .u8 (x : Nat)] w fun e w' => e = .returned (.bool (kindB x)) ∧ w = w' := by
  by_cases h : 1 ≤ x
  · have d : decide ((1 : Int) ≤ (x : Int)) = true := by simp; omega
    have e : kindB x = decide ((x : Int) ≤ 8) := by
      unfold kindB
      rw [decide_eq_true h, Bool.true_and]; exact decide_eq_decide.2 (by omega)
    generalize kindB x = r at *
    subst e
    go_enter Try.func68, Try.ntmps68
    go_wp2_with fail
    go_ret
    exact ⟨rfl, rfl⟩
  · have d : decide ((1 : Int) ≤ (x : Int)) = false := by simp; omega
    have e : kindB x = false := by
      unfold kindB
      rw [decide_eq_false h]; rfl
    generalize kindB x = r at *
    subst e
    go_enter Try.func68, Try.ntmps68
    go_wp2_with fail
    go_ret
    exact ⟨rfl, rfl⟩
/-- The seat that bytes name. -/
def seatN (l : List Nat) : Nat × Bool := if l.length < 25 then (0, false) else if kindB (l.getD 0 0) = true then (l.getD 1 0, true) else (0, false)
set_option maxRecDepth 100000 in
set_option maxHeartbeats 8000000 in
theorem seat_any (v : Value) (n : Nat) (l : List Nat) (w : World) (h : SB w v n l) : Calls Try.prog 26 #[v] w fun e w' => e = .returned (.tuple #[.int .i64 ((seatN l).1 : Nat), .bool (seatN l).2]) ∧ w = w' := by
  have hs : seatN l = if n < 25 then (0, false) else if kindB (l.getD 0 0) = true then (l.getD 1 0, true) else (0, false) := by rw [← h.1]; rfl
  generalize seatN l = S at *
  obtain ⟨sa, cap, rfl, hc, hm⟩ := h.len
  unfold maxLen at hm
  by_cases h1 : n < 25
  · have d : decide ((n : Int) < 25) = true := by simp; omega
    rw [if_pos h1] at hs
    subst hs
    clear h
    go_enter Try.func26, Try.ntmps26
    go_wp2_with fail
    go_ret2
    exact ⟨rfl, rfl⟩
  have d : decide ((n : Int) < 25) = false := by simp; omega
  rw [if_neg h1] at hs
  obtain ⟨b, o, cap', he, _, _, _, hcell⟩ := h.form (by omega)
  cases he
  have z0 := hcell 0 (by omega)
  have z1 := hcell 1 (by omega)
  rw [Nat.add_zero] at z0
  have hx8 := ByL.get h.2.1 0
  have hy8 := ByL.get h.2.1 1
  clear hcell h
  generalize l.getD 0 0 = x at *
  generalize l.getD 1 0 = y at *
  have cK := Lib.hid (kind_any x w)
  cases hk : kindB x with
  | true =>
    rw [hk] at cK
    rw [hk, if_pos rfl] at hs
    subst hs
    replace hk := Lib.hid hk
    go_enter Try.func26, Try.ntmps26
    go_wp2_with fail
    refine Calls.mono cK.out ?_
    rintro e w2 ⟨rfl, rfl⟩
    clear cK
    go_wp2_with fail
    go_ret2
    exact ⟨rfl, rfl⟩
  | false =>
    rw [hk] at cK
    rw [hk, if_neg (by decide)] at hs
    subst hs
    replace hk := Lib.hid hk
    go_enter Try.func26, Try.ntmps26
    go_wp2_with fail
    refine Calls.mono cK.out ?_
    rintro e w2 ⟨rfl, rfl⟩
    clear cK
    go_wp2_with fail
    go_ret2
    exact ⟨rfl, rfl⟩
def zF : FrD := ⟨0, 0, 0, 0, 0, 0, 0, []⟩
def zFC : Array Value := frC 0 0 0 0 0 0 0 (.slice none 0 0)
/-- The sources that bytes tell. -/
def srcF (l : List Nat) (n : Nat) : List Nat := (List.range n).map fun i => numB ((l.drop (15 + 4 * i)).take 4)
def layF (x : Nat) : Int := if x = 255 then -1 else (x : Nat)
def frOf (l : List Nat) (n : Nat) : FrD := ⟨(l.getD 0 0 : Nat), (l.getD 1 0 : Nat), numB ((l.drop 2).take 8), (l.getD 10 0 : Nat), (l.getD 11 0 : Nat), (l.getD 12 0 : Nat), layF (l.getD 13 0), srcF l n⟩
/-- Is the form of bytes wrong? -/
def formF (l : List Nat) : Bool := !(kindB (l.getD 0 0)) || decide (16 < l.getD 14 0) || decide (l.length ≠ 25 + 4 * l.getD 14 0)
def smallF (l : List Nat) : Bool := [(l.getD 1 0 : Int), (l.getD 10 0 : Int), (l.getD 11 0 : Int), (l.getD 12 0 : Int)].any badB
/-- What bytes are read as: an error's number, a frame. -/
def rdF (key l : List Nat) : Nat × FrD :=
  if l.length < 25 then (2, zF)
  else if formF l = true ∨ smallF l = true then (3, zF)
  else if goodB key (l.take (l.length - 10)) (l.drop (l.length - 10)) = true then (0, frOf l (l.getD 14 0)) else (4, zF)
def FrRdPost (R : Nat × FrD) (w : World) (e : Ending) (w' : World) : Prop :=
  ∃ c : Array Value, e = .returned (.tuple #[.agg c, .int .i64 (R.1 : Nat)]) ∧ FrV w' c R.2 ∧ BW w w'
theorem FrV.zero (w : World) : FrV w zFC zF := ⟨_, rfl, (NO.nil w 0 73 .u32).nb⟩
theorem srcF_len (l : List Nat) (n : Nat) : (srcF l n).length = n := by simp [srcF]
theorem srcF_snoc (l : List Nat) (n : Nat) : srcF l (n + 1) = srcF l n ++ [numB ((l.drop (15 + 4 * n)).take 4)] := by
  unfold srcF
  rw [List.range_succ, List.map_append]; rfl
end Go.Proofs.Ytcempndfbckcaaa
