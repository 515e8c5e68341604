/- The law SchedOnce: two tasks asked at rising ticks, by the plain table. Plain law. -/
import Derived.Test.YtcempndfbckcaaaSeH
namespace Go.Proofs.Ytcempndfbckcaaa

def bOnce : ByteArray := ⟨#[111, 110, 99, 101]⟩
def bOften : ByteArray := ⟨#[111, 102, 116, 101, 110]⟩
def tkO (at_ : Int) : Tk := ⟨1, at_, 0, bOnce⟩
def tkN (u p : Int) : Tk := ⟨2, u, p, bOften⟩
def uN (at_ p t : Int) : Int := at_ + ((t - at_) / p + 1) * p
/-- The table behind the tick t. -/
def onS (at_ p t : Int) : List Tk := if at_ ≤ t then [tkN (uN at_ p t) p] else [tkO at_, tkN at_ p]
def lastS (at_ p t : Int) : Int := if at_ ≤ t then at_ + (t - at_) / p * p else -1
/-- What is told between. -/
def namS (at_ p t t2 : Int) : List ByteArray := if at_ ≤ t then (if uN at_ p t ≤ t2 then [bOften] else []) else if at_ ≤ t2 then [bOnce, bOften] else []
theorem on_ins (at_ p : Int) : insT ⟨2, at_, p, bOften⟩ [tkO at_] = [tkO at_, tkN at_ p] := by
  unfold insT
  rw [if_neg (by unfold tkO Tk.key; dsimp only; omega)]
  rfl
theorem on_due0 {tick : Int} {x : Tk} {l : List Tk} (h : tick < x.t) : dueS tick (x :: l) = (x :: l, []) := by
  have : dueT tick x = false := decide_eq_false (by omega)
  unfold dueS
  simp [this, againT]
theorem on_due1 {tick u p : Int} (h : u ≤ tick) (hp : 0 < p) : dueS tick [tkN u p] = ([tkN (u + ((tick - u) / p + 1) * p) p], [bOften]) := by
  have h1 : dueT tick (tkN u p) = true := decide_eq_true h
  unfold dueS againT
  simp only [List.takeWhile_cons, List.dropWhile_cons, h1, if_true, List.takeWhile_nil, List.dropWhile_nil]
  have h2 : ([tkN u p].filter fun E => decide (0 < E.p)) = [tkN u p] := by
    rw [List.filter_cons_of_pos (by show decide (0 < p) = true; simpa using hp)]; rfl
  rw [h2]
  rfl
theorem on_due2 {tick at_ p : Int} (h : at_ ≤ tick) (hp : 0 < p) : dueS tick [tkO at_, tkN at_ p] = ([tkN (at_ + ((tick - at_) / p + 1) * p) p], [bOnce, bOften]) := by
  have h1 : dueT tick (tkN at_ p) = true := decide_eq_true h
  have h0 : dueT tick (tkO at_) = true := decide_eq_true h
  unfold dueS againT
  simp only [List.takeWhile_cons, List.dropWhile_cons, h1, h0, if_true, List.takeWhile_nil, List.dropWhile_nil]
  have h2 : ([tkO at_, tkN at_ p].filter fun E => decide (0 < E.p)) = [tkN at_ p] := by
    rw [List.filter_cons_of_neg (by show ¬ decide ((0 : Int) < 0) = true; decide), List.filter_cons_of_pos (by show decide (0 < p) = true; simpa using hp)]; rfl
  rw [h2]
  rfl
theorem uN_gt {at_ p t : Int} (h : at_ ≤ t) (hp : 0 < p) : t < uN at_ p t := by
  unfold uN
  have := Int.lt_ediv_add_one_mul_self (t - at_) hp
  omega
theorem on_step {at_ p t t2 : Int} (hp : 0 < p) (ht : t < t2) : dueS t2 (onS at_ p t) = (onS at_ p t2, namS at_ p t t2) := by
  unfold onS namS
  by_cases h1 : at_ ≤ t
  · rw [if_pos h1, if_pos h1, if_pos (show at_ ≤ t2 by omega)]
    by_cases h2 : uN at_ p t ≤ t2
    · rw [if_pos h2, on_due1 h2 hp]
      have : uN at_ p t + ((t2 - uN at_ p t) / p + 1) * p = uN at_ p t2 := by
        unfold uN
        have e : t2 - (at_ + ((t - at_) / p + 1) * p) = (t2 - at_) + (-((t - at_) / p + 1)) * p := by rw [Int.neg_mul]; omega
        rw [e, Int.add_mul_ediv_right _ _ (by omega)]
        generalize (t - at_) / p = q
        generalize (t2 - at_) / p = q2
        rw [show q2 + -(q + 1) + 1 = (q2 + 1) - (q + 1) by omega, Int.sub_mul]
        omega
      rw [this]
    · rw [if_neg h2, on_due0 (by show t2 < uN at_ p t; omega)]
      have : (t2 - at_) / p = (t - at_) / p := by
        unfold uN at h2
        have k1 := Int.ediv_mul_le (t - at_) (b := p) (by omega)
        refine Int.le_antisymm ?_ (Int.ediv_le_ediv hp (by omega))
        have k2 : (t2 - at_) / p < (t - at_) / p + 1 := Int.ediv_lt_of_lt_mul hp (by omega)
        omega
      unfold uN
      rw [this]
  · rw [if_neg h1, if_neg h1]
    by_cases h2 : at_ ≤ t2
    · rw [if_pos h2, if_pos h2, on_due2 h2 hp]
      rfl
    · rw [if_neg h2, if_neg h2, on_due0 (by show t2 < at_; omega)]
theorem on_same {at_ p t : Int} (hp : 0 < p) : dueS t (onS at_ p t) = (onS at_ p t, []) := by
  unfold onS
  by_cases h1 : at_ ≤ t
  · rw [if_pos h1, on_due0 (uN_gt h1 hp)]
  · rw [if_neg h1, on_due0 (by show t < at_; omega)]
theorem on_len (at_ p t : Int) : (onS at_ p t).length ≤ 2 := by
  unfold onS
  split <;> simp
/-- Told again just if the last tick is another. -/
theorem on_more {at_ p t t2 : Int} (hp : 0 < p) (h1 : at_ ≤ t) (ht : t < t2) : decide (lastS at_ p t < lastS at_ p t2) = decide (uN at_ p t ≤ t2) := by
  unfold lastS
  rw [if_pos h1, if_pos (show at_ ≤ t2 by omega), decide_eq_decide]
  unfold uN
  have k1 := Int.ediv_mul_le (t2 - at_) (b := p) (by omega)
  have k2 : (t - at_) / p ≤ (t2 - at_) / p := Int.ediv_le_ediv hp (by omega)
  constructor
  · intro h
    have h3 : (t - at_) / p < (t2 - at_) / p := by
      rcases Int.lt_or_eq_of_le k2 with h4 | h4
      · exact h4
      · rw [h4] at h; omega
    have h5 := Int.mul_le_mul_of_nonneg_right (show (t - at_) / p + 1 ≤ (t2 - at_) / p by omega) (show 0 ≤ p by omega)
    omega
  · intro h
    have h3 : (t - at_) / p + 1 ≤ (t2 - at_) / p := Int.le_ediv_of_mul_le hp (by omega)
    have h5 := Int.mul_le_mul_of_nonneg_right h3 (show 0 ≤ p by omega)
    rw [Int.add_mul] at h5
    omega
/-- How many are true. -/
def cT : List Bool → Nat
  | [] => 0
  | true :: l => cT l + 1
  | false :: l => cT l
theorem cT_suc (l : List Bool) (k : Nat) (h : k < l.length) : cT (l.take (k + 1)) = cT (l.take k) + (if l[k] then 1 else 0) := by
  induction l generalizing k with
  | nil => simp at h
  | cons b l ih =>
    cases k with
    | zero => cases b <;> simp [cT]
    | succ k =>
      have := ih k (by simpa using h)
      cases b
      · simpa [cT] using this
      · simp [cT, this]; omega
theorem cT_le (l : List Bool) : cT l ≤ l.length := by
  induction l with
  | nil => simp [cT]
  | cons b l ih => cases b <;> simp [cT] <;> omega
end Go.Proofs.Ytcempndfbckcaaa
