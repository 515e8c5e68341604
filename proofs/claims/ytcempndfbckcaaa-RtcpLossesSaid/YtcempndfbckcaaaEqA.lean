/- Two arrays of numbers compared. -/
import Derived.Test.YtcempndfbckcaaaArr
import Derived.Laws.StructEq
namespace Go.Proofs.Ytcempndfbckcaaa
open Go.RowKit

theorem run_part_int {P : Program} (w : World) (e : TypeId) (k : IntKind) (a : List Nat) (he : P.underlying e = some (.int k)) (i : Nat) (h : i < a.length) :
    (part e (ivA k a) i).run P w = .ok (.int k (a[i] : Nat)) w := by
  have hagg : (isAgg e).run P w = .ok false w := by
    unfold isAgg
    rw [Sem.run_bind, run_underlying he w]
    rfl
  have hg : (ivA k a)[i]? = some (.int k (a[i] : Nat)) := by simp [ivA, h]
  unfold part
  simp [Sem.run_bind, hagg, hg]

theorem loop_eq {P : Program} (w : World) (d : Nat) (e : TypeId) (k : IntKind) (a b : List Nat) (he : P.underlying e = some (.int k)) (n : Nat) (la : a.length = n) (lb : b.length = n) :
    ∀ m i, i + m = n → (forIn (m := Sem) (List.range' i m) ((none, ()) : Option Bool × Unit) fun i _ => do
        if !(← Op.equalIn (d + 1) e (← part e (ivA k a) (i * 1)) (← part e (ivA k b) (i * 1))) then pure (.done (some false, ())) else pure (.yield (none, ()))).run P w
      = .ok (if a.drop i == b.drop i then (none, ()) else (some false, ())) w
  | 0, i, hi => by
    have : a.drop i = [] := List.drop_eq_nil_of_le (by omega)
    have : b.drop i = [] := List.drop_eq_nil_of_le (by omega)
    simp [*]
  | m + 1, i, hi => by
    have ia : i < a.length := by omega
    have ib : i < b.length := by omega
    rw [List.range'_succ, List.forIn_cons]
    simp only [Sem.run_bind, Nat.mul_one, run_part_int w e k a he i ia, run_part_int w e k b he i ib, Result.andThen_ok, run_equalIn_int w d e k k _ _ he]
    have hd : a.drop i = a[i] :: a.drop (i + 1) := by rw [← List.getElem_cons_drop (h := ia)]
    have hd' : b.drop i = b[i] :: b.drop (i + 1) := by rw [← List.getElem_cons_drop (h := ib)]
    rw [hd, hd']
    have ih := loop_eq w d e k a b he n la lb m (i + 1) (by omega)
    simp only [Nat.mul_one] at ih
    have e2 : (a[i] :: a.drop (i + 1) == b[i] :: b.drop (i + 1)) = ((a[i] == b[i]) && (a.drop (i + 1) == b.drop (i + 1))) := rfl
    rw [e2]
    by_cases h : a[i] = b[i]
    · have e1 : (((a[i] : Nat) : Int) == ((b[i] : Nat) : Int)) = true := by rw [h]; simp
      have e3 : (a[i] == b[i]) = true := by rw [h]; simp
      rw [e3, Bool.true_and, ← ih]
      simp only [e1, Bool.not_true, Bool.false_eq_true, if_false, Sem.run_pure, Result.andThen_ok]
    · have e1 : (((a[i] : Nat) : Int) == ((b[i] : Nat) : Int)) = false := by
        rw [beq_eq_false_iff_ne]; omega
      have e3 : (a[i] == b[i]) = false := by rw [beq_eq_false_iff_ne]; exact h
      rw [e3, Bool.false_and]
      simp only [e1, Bool.not_false, if_true, Sem.run_pure, Result.andThen_ok]
      rfl

theorem run_equalIn_ivA {P : Program} (d : Nat) (T e : TypeId) (n : Nat) (k : IntKind) (a b : List Nat) (hT : P.underlying T = some (.array n e)) (he : P.underlying e = some (.int k)) (hs : (P.info? e).map (·.size) = some 1) (la : a.length = n) (lb : b.length = n) (w : World) :
    (Op.equalIn (d + 2) T (.agg (ivA k a)) (.agg (ivA k b))).run P w = .ok (a == b) w := by
  have hsz : (sizeOf e).run P w = .ok 1 w := by
    cases hq : P.info? e with
    | none => simp [hq] at hs
    | some i => simp [hq] at hs; simp [sizeOf, typeInfo, hq, hs]
  have hl := loop_eq w d e k a b he n la lb n 0 (by omega)
  rw [Op.equalIn]
  simp only [Sem.run_bind, run_underlying hT, Result.andThen_ok, hsz]
  rw [Std.Legacy.Range.forIn_eq_forIn_range']
  rw [show ([:n].size) = n by simp [Std.Legacy.Range.size], show ([:n].start) = 0 from rfl, show ([:n].step) = 1 from rfl, hl]
  by_cases h : a = b
  · subst h; simp
  · have : ¬ (a == b) = true := by simpa using h
    simp [this]
end Go.Proofs.Ytcempndfbckcaaa
