/- Frames: what is read, by what would be written. Plain laws. -/
import Derived.Test.YtcempndfbckcaaaFrG
namespace Go.Proofs.Ytcempndfbckcaaa
open Go.RowKit

theorem take_cons {l : List Nat} {i : Nat} (k : Nat) (h : i < l.length) : (l.drop i).take (k + 1) = l.getD i 0 :: (l.drop (i + 1)).take k := by
  rw [List.drop_eq_getElem_cons h, List.take_succ_cons, List.getD_eq_getElem?_getD, List.getElem?_eq_getElem h]; rfl
theorem putnum {l : List Nat} (hb : ByL l) {i n : Nat} (h : i + n ≤ l.length) : putB n (numB ((l.drop i).take n)) = (l.drop i).take n := by
  have hl : ((l.drop i).take n).length = n := by rw [List.length_take, List.length_drop]; omega
  have := putB_numB ((l.drop i).take n) ((hb.drop i).take n)
  rw [hl] at this
  exact this
theorem oth_src {l : List Nat} (hb : ByL l) : ∀ m, 15 + 4 * m ≤ l.length → othF (srcF l m) = (l.drop 15).take (4 * m)
  | 0, _ => rfl
  | m + 1, h => by
    have e : othF (srcF l (m + 1)) = othF (srcF l m) ++ putB 4 (numB ((l.drop (15 + 4 * m)).take 4)) := by
      rw [srcF_snoc]; unfold othF
      rw [List.flatMap_append]; simp
    rw [e, oth_src hb m (by omega), putnum hb (by omega), Nat.mul_succ, List.take_add, List.drop_drop]
theorem b8_lay {x : Nat} (h : x < 256) : b8 (layF x) = x := by
  unfold layF
  split
  · next e => rw [e]; rfl
  · exact b8_nat h
theorem re_body {l : List Nat} {m : Nat} (hb : ByL l) (hl : l.length = 25 + 4 * m) (hm : l.getD 14 0 = m) (h16 : m ≤ 16) : frBody (frOf l m) = l.take (15 + 4 * m) := by
  have g := fun i => ByL.get hb i
  have e15 : l.take 15 = [l.getD 0 0, l.getD 1 0] ++ (l.drop 2).take 8 ++ [l.getD 10 0, l.getD 11 0, l.getD 12 0, l.getD 13 0, l.getD 14 0] := by
    have e1 : l.take 15 = (l.drop 0).take (2 + (8 + 5)) := by rw [List.drop_zero]
    rw [e1, List.take_add, List.take_add, List.drop_drop, List.drop_drop, List.append_assoc]
    congr 1
    · rw [take_cons 1 (by omega), take_cons 0 (by omega), List.take_zero]
    · congr 1
      rw [take_cons 4 (by omega), take_cons 3 (by omega), take_cons 2 (by omega), take_cons 1 (by omega), take_cons 0 (by omega), List.take_zero]
  rw [List.take_add, e15, ← oth_src hb m (by omega)]
  unfold frBody frHead
  simp only [frOf, List.map_cons, List.map_nil, srcF_len]
  rw [putnum hb (by omega), b8_nat (g 0), b8_nat (g 1), b8_nat (g 10), b8_nat (g 11), b8_nat (g 12), b8_lay (g 13), b8_nat (show m < 256 by omega), hm]
theorem bad_lay {x : Nat} (h : x < 256) : badB (max (layF x) 0) = false ∧ -1 ≤ layF x := by
  unfold layF
  split
  · exact ⟨rfl, by decide⟩
  · refine ⟨?_, by omega⟩
    rw [show max (x : Int) 0 = x by omega]
    unfold badB
    rw [decide_eq_false (by omega), decide_eq_false (by omega)]; rfl
theorem may_of {l : List Nat} {m : Nat} (hb : ByL l) : mayF (frOf l m) = (kindB (l.getD 0 0) && !(smallF l) && decide (m ≤ 16)) := by
  obtain ⟨h1, h2⟩ := bad_lay (ByL.get hb 13)
  unfold mayF smallF kindB
  simp only [frOf, srcF_len, List.any_cons, List.any_nil, Bool.or_false, h1]
  generalize (!(badB (l.getD 1 0 : Nat) || (badB (l.getD 10 0 : Nat) || (badB (l.getD 11 0 : Nat) || badB (l.getD 12 0 : Nat))))) = z
  rw [Bool.eq_iff_iff]
  simp only [Bool.and_eq_true]
  constructor
  · rintro ⟨⟨⟨⟨a, b⟩, c⟩, d⟩, e⟩
    have a := of_decide_eq_true a
    have b := of_decide_eq_true b
    exact ⟨⟨⟨decide_eq_true (by omega), decide_eq_true (by omega)⟩, c⟩, e⟩
  · rintro ⟨⟨⟨a, b⟩, c⟩, e⟩
    have a := of_decide_eq_true a
    have b := of_decide_eq_true b
    exact ⟨⟨⟨⟨decide_eq_true (by omega), decide_eq_true (by omega)⟩, c⟩, decide_eq_true h2⟩, e⟩
theorem good_iff {key l : List Nat} {m : Nat} (hb : ByL l) (hl : l.length = 25 + 4 * m) (hm : l.getD 14 0 = m) (h16 : m ≤ 16) : (frN key (frOf l m) = l) ↔ goodB key (l.take (l.length - 10)) (l.drop (l.length - 10)) = true := by
  have hN : l.length - 10 = 15 + 4 * m := by omega
  rw [hN]
  unfold frN tagB
  rw [re_body hb hl hm h16]
  have ht : (l.drop (15 + 4 * m)).length = 10 := by rw [List.length_drop]; omega
  unfold goodB
  rw [ht]
  simp only [show decide (1 ≤ 10) = true from rfl, show decide (10 ≤ 20) = true from rfl, Bool.true_and, decide_eq_true_iff]
  constructor
  · intro h
    have h2 := congrArg (List.drop (15 + 4 * m)) h
    rw [List.drop_append_of_le_length (by rw [List.length_take]; omega), List.drop_of_length_le (by rw [List.length_take]; omega), List.nil_append] at h2
    exact h2.symm
  · intro h
    rw [← h, List.take_append_drop]
theorem othF_byt (l : List Nat) : ByL (othF l) := fun x hx => by
  obtain ⟨a, _, h⟩ := List.mem_flatMap.1 hx
  exact putB_byt 4 a x h
theorem frBody_byt (d : FrD) : ByL (frBody d) := by
  unfold frBody frHead
  exact (((b8_byt _).append (putB_byt _ _)).append (b8_byt _)).append (othF_byt _)
theorem frN_byt (key : List Nat) (d : FrD) : ByL (frN key d) := by
  unfold frN tagB
  exact (frBody_byt d).append ((hmac_byt _ _).take _)
theorem rd_short {key l : List Nat} (h : l.length < 25) : rdF key l = (2, zF) := if_pos h
theorem rd_form {key l : List Nat} (h : ¬ l.length < 25) (h2 : l.length ≠ 25 + 4 * l.getD 14 0) : rdF key l = (3, zF) := by
  unfold rdF
  rw [if_neg h, if_pos (.inl (by unfold formF; rw [decide_eq_true h2]; simp))]
theorem rd_may {key l : List Nat} (hb : ByL l) (h : ¬ l.length < 25) (h2 : l.length = 25 + 4 * l.getD 14 0) (hM : mayF (frOf l (l.getD 14 0)) = false) : rdF key l = (3, zF) := by
  unfold rdF
  rw [if_neg h, if_pos]
  rw [may_of hb] at hM
  unfold formF
  rw [decide_eq_false (by omega : ¬ l.length ≠ 25 + 4 * l.getD 14 0), Bool.or_false]
  cases hk : kindB (l.getD 0 0) with
  | false => left; rfl
  | true =>
    rw [hk, Bool.true_and] at hM
    cases hs : smallF l with
    | true => right; rfl
    | false =>
      rw [hs, Bool.not_false, Bool.true_and] at hM
      have := of_decide_eq_false hM
      left
      rw [decide_eq_true (by omega)]; rfl
theorem rd_ok {key l : List Nat} (hb : ByL l) (h : ¬ l.length < 25) (h2 : l.length = 25 + 4 * l.getD 14 0) (hM : mayF (frOf l (l.getD 14 0)) = true) : rdF key l = if frN key (frOf l (l.getD 14 0)) = l then (0, frOf l (l.getD 14 0)) else (4, zF) := by
  unfold rdF
  rw [may_of hb, Bool.and_eq_true, Bool.and_eq_true] at hM
  have h16 := of_decide_eq_true hM.2
  have hf : formF l = false := by
    unfold formF
    rw [hM.1.1, decide_eq_false (by omega), decide_eq_false (by omega)]; rfl
  have hs : smallF l = false := by simpa using hM.1.2
  rw [if_neg h, hf, hs, if_neg (by decide)]
  by_cases hg : goodB key (l.take (l.length - 10)) (l.drop (l.length - 10)) = true
  · rw [if_pos hg, if_pos ((good_iff hb h2 rfl h16).2 hg)]
  · rw [if_neg hg, if_neg (fun e => hg ((good_iff hb h2 rfl h16).1 e))]
theorem frOf_wf {l : List Nat} (hb : ByL l) {m : Nat} (h : 15 + 4 * m ≤ l.length) : FrWf (frOf l m) := by
  have g := fun i => ByL.get hb i
  have i64 : ∀ i, I64 (l.getD i 0 : Nat) := fun i => by have := g i; unfold I64; omega
  refine ⟨i64 _, i64 _, ?_, i64 _, i64 _, i64 _, ?_, fun x hx => ?_⟩
  · have := numB_lt ((l.drop 2).take 8) ((hb.drop 2).take 8)
    have hl : ((l.drop 2).take 8).length ≤ 8 := by rw [List.length_take]; omega
    have := Nat.pow_le_pow_right (show 0 < 256 by decide) hl
    show numB ((l.drop 2).take 8) < 18446744073709551616
    omega
  · show I64 (layF _)
    have := g 13
    unfold layF I64; split <;> omega
  · have hx : x ∈ (List.range m).map fun i => numB ((l.drop (15 + 4 * i)).take 4) := hx
    obtain ⟨i, _, rfl⟩ := List.mem_map.1 hx
    have := numB_lt ((l.drop (15 + 4 * i)).take 4) ((hb.drop _).take 4)
    have hl : ((l.drop (15 + 4 * i)).take 4).length ≤ 4 := by rw [List.length_take]; omega
    have := Nat.pow_le_pow_right (show 0 < 256 by decide) hl
    omega
end Go.Proofs.Ytcempndfbckcaaa
