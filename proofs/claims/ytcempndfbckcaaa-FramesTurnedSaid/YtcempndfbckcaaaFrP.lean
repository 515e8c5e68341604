/- Frames: what is written is read; plain laws. -/
import Derived.Test.YtcempndfbckcaaaFrI
import Derived.Test.YtcempndfbckcaaaGFs
namespace Go.Proofs.Ytcempndfbckcaaa
open Go.RowKit

theorem dropAt' {A B : List Nat} {a : Nat} (h : A.length = a) : (A ++ B).drop a = B := by
  rw [List.drop_append_of_le_length (by omega), List.drop_of_length_le (by omega), List.nil_append]
theorem takeAt' {A B : List Nat} {a : Nat} (h : A.length = a) : (A ++ B).take a = A := by
  rw [List.take_append_of_le_length (by omega), List.take_of_length_le (by omega)]
theorem getD_drop (l : List Nat) (i j : Nat) : l.getD (i + j) 0 = (l.drop i).getD j 0 := by
  simp [List.getD_eq_getElem?_getD, List.getElem?_drop]
theorem oth_at : ∀ (l T : List Nat) (i : Nat), i < l.length → (∀ x ∈ l, x < 4294967296) → numB (((othF l ++ T).drop (4 * i)).take 4) = l.getD i 0
  | x :: l, T, 0, _, hx => by
    have e : othF (x :: l) ++ T = putB 4 x ++ (othF l ++ T) := by unfold othF; simp
    rw [e, Nat.mul_zero, List.drop_zero, takeAt' (putB_len _ _), numB_putB]
    exact Nat.mod_eq_of_lt (hx x List.mem_cons_self)
  | x :: l, T, i + 1, h, hx => by
    have e : othF (x :: l) ++ T = putB 4 x ++ (othF l ++ T) := by unfold othF; simp
    rw [e, show 4 * (i + 1) = 4 + 4 * i by omega, ← List.drop_drop, dropAt' (putB_len _ _), oth_at l T i (by simpa using h) (fun y hy => hx y (List.mem_cons_of_mem _ hy))]
    simp
theorem b8_int' {n : Int} (h : badB n = false) : ((b8 n : Nat) : Int) = n := by
  have := badB_ok h
  unfold b8; omega
theorem lay_back {x : Int} (h1 : -1 ≤ x) (h2 : badB (max x 0) = false) : layF (b8 x) = x := by
  by_cases h : x = -1
  · subst h; rfl
  · have hb : badB x = false := by rw [show max x 0 = x by omega] at h2; exact h2
    have := badB_ok hb
    unfold layF
    rw [if_neg (by unfold b8; omega)]
    exact b8_int' hb
theorem may_parts {d : FrD} (h : mayF d = true) : (1 ≤ d.kind ∧ d.kind ≤ 8) ∧ badB d.seat = false ∧ badB d.room = false ∧ badB d.track = false ∧ badB d.owner = false ∧ badB (max d.layer 0) = false ∧ -1 ≤ d.layer ∧ d.srcs.length ≤ 16 := by
  unfold mayF at h
  simp only [Bool.and_eq_true, List.any_cons, List.any_nil, Bool.or_false, Bool.not_eq_true', Bool.or_eq_false_iff] at h
  obtain ⟨⟨⟨⟨a, b⟩, c1, c2, c3, c4, c5⟩, e⟩, f⟩ := h
  exact ⟨⟨of_decide_eq_true a, of_decide_eq_true b⟩, c1, c2, c3, c4, c5, of_decide_eq_true e, of_decide_eq_true f⟩
/-- What is written tells its frame. -/
theorem fr_back {d : FrD} (wf : FrWf d) (h : mayF d = true) (key : List Nat) : (frN key d).getD 14 0 = d.srcs.length ∧ frOf (frN key d) d.srcs.length = d := by
  obtain ⟨hk, hs, hr, ht, ho, hl, hl1, hn⟩ := may_parts h
  have e0 : frN key d = [b8 d.kind, b8 d.seat] ++ (putB 8 d.nonce ++ ([b8 d.room, b8 d.track, b8 d.owner, b8 d.layer, b8 (d.srcs.length : Int)] ++ (othF d.srcs ++ (hmacN key (frBody d)).take 10))) := by
    unfold frN tagB
    conv => lhs; arg 1; unfold frBody frHead
    simp
  generalize (hmacN key (frBody d)).take 10 = T at *
  generalize frN key d = l at *
  have d2 : l.drop 2 = putB 8 d.nonce ++ ([b8 d.room, b8 d.track, b8 d.owner, b8 d.layer, b8 (d.srcs.length : Int)] ++ (othF d.srcs ++ T)) := by rw [e0]; rfl
  have d10 : l.drop 10 = [b8 d.room, b8 d.track, b8 d.owner, b8 d.layer, b8 (d.srcs.length : Int)] ++ (othF d.srcs ++ T) := by
    rw [show 10 = 2 + 8 from rfl, ← List.drop_drop, d2, dropAt' (putB_len _ _)]
  have d15 : l.drop 15 = othF d.srcs ++ T := by
    rw [show 15 = 10 + 5 from rfl, ← List.drop_drop, d10]; rfl
  have g0 : l.getD 0 0 = b8 d.kind := by rw [e0]; rfl
  have g1 : l.getD 1 0 = b8 d.seat := by rw [e0]; rfl
  have g10 : l.getD 10 0 = b8 d.room := by rw [show 10 = 10 + 0 from rfl, getD_drop, d10]; rfl
  have g11 : l.getD 11 0 = b8 d.track := by rw [show 11 = 10 + 1 from rfl, getD_drop, d10]; rfl
  have g12 : l.getD 12 0 = b8 d.owner := by rw [show 12 = 10 + 2 from rfl, getD_drop, d10]; rfl
  have g13 : l.getD 13 0 = b8 d.layer := by rw [show 13 = 10 + 3 from rfl, getD_drop, d10]; rfl
  have g14 : l.getD 14 0 = b8 (d.srcs.length : Int) := by rw [show 14 = 10 + 4 from rfl, getD_drop, d10]; rfl
  have hsrc : srcF l d.srcs.length = d.srcs := by
    apply List.ext_getElem (srcF_len _ _)
    intro i h1 h2
    simp only [srcF, List.getElem_map, List.getElem_range]
    rw [← List.drop_drop, d15, oth_at _ _ _ h2 wf.srcs, List.getD_eq_getElem?_getD, List.getElem?_eq_getElem h2]; rfl
  have hnum : numB ((l.drop 2).take 8) = d.nonce := by
    rw [d2, takeAt' (putB_len _ _), numB_putB]
    exact Nat.mod_eq_of_lt wf.nonce
  refine ⟨by rw [g14]; exact b8_nat (by omega), ?_⟩
  unfold frOf
  rw [g0, g1, g10, g11, g12, g13, hsrc, hnum, b8_int' hs, b8_int' hr, b8_int' ht, b8_int' ho, lay_back hl1 hl, show ((b8 d.kind : Nat) : Int) = d.kind by unfold b8; omega]
theorem rd_write {d : FrD} (wf : FrWf d) (h : mayF d = true) (key : List Nat) : rdF key (frN key d) = (0, d) := by
  obtain ⟨h14, hof⟩ := fr_back wf h key
  have hl := frN_len key d
  rw [rd_ok (frN_byt key d) (by omega) (by rw [h14]; exact hl) (by rw [h14, hof]; exact h), h14, hof, if_pos rfl]
theorem seat_write {d : FrD} (wf : FrWf d) (h : mayF d = true) (key : List Nat) : seatN (frN key d) = (b8 d.seat, true) := by
  obtain ⟨hk, hs, _⟩ := may_parts h
  have hl := frN_len key d
  have g0 : (frN key d).getD 0 0 = b8 d.kind := rfl
  have g1 : (frN key d).getD 1 0 = b8 d.seat := rfl
  unfold seatN
  rw [if_neg (by omega), g0, g1, if_pos]
  unfold kindB b8
  rw [decide_eq_true (by omega), decide_eq_true (by omega)]; rfl
/-- What is read well has its tag. -/
theorem rd_good {key l : List Nat} (h : (rdF key l).1 = 0) : goodB key (l.take (l.length - 10)) (l.drop (l.length - 10)) = true := by
  unfold rdF at h
  split at h
  · cases h
  split at h
  · cases h
  split at h
  · next hg => exact hg
  · cases h
theorem rep_read {key : List Nat} {nc c v : Nat} (hnc : nc < 18446744073709551616) (hc : c ≤ 255) (hv : v ≤ 2147483647) : repRd key (repN key nc c v) = ⟨0, nc, c, v⟩ := by
  have hl := repN_len key nc c v
  have e0 : repN key nc c v = [200] ++ (putB 8 nc ++ ([c] ++ (putB 4 v ++ (hmacN key (repBody nc c v)).take 10))) := by
    unfold repN tagB
    conv => lhs; arg 1; unfold repBody
    simp
  have hgd : goodB key ((repN key nc c v).take 14) ((repN key nc c v).drop 14) = true := by
    unfold repN tagB
    rw [takeAt' (repBody_len _ _ _), dropAt' (repBody_len _ _ _)]
    unfold goodB
    have : ((hmacN key (repBody nc c v)).take 10).length = 10 := by rw [List.length_take, hmac_len]; rfl
    rw [this]; simp
  generalize (hmacN key (repBody nc c v)).take 10 = T at *
  generalize repN key nc c v = l at *
  have d1 : l.drop 1 = putB 8 nc ++ ([c] ++ (putB 4 v ++ T)) := by rw [e0]; rfl
  have d9 : l.drop 9 = [c] ++ (putB 4 v ++ T) := by rw [show 9 = 1 + 8 from rfl, ← List.drop_drop, d1, dropAt' (putB_len _ _)]
  have d10 : l.drop 10 = putB 4 v ++ T := by rw [show 10 = 9 + 1 from rfl, ← List.drop_drop, d9]; rfl
  have g0 : l.getD 0 0 = 200 := by rw [e0]; rfl
  have g9 : l.getD 9 0 = c := by rw [show 9 = 9 + 0 from rfl, getD_drop, d9]; rfl
  have g10 : l.getD 10 0 ≤ 127 := by
    rw [show 10 = 10 + 0 from rfl, getD_drop, d10]
    show v / 256 ^ 3 % 256 ≤ 127
    omega
  have n1 : numB ((l.drop 1).take 8) = nc := by
    rw [d1, takeAt' (putB_len _ _), numB_putB]; exact Nat.mod_eq_of_lt hnc
  have n2 : numB ((l.drop 10).take 4) = v := by
    rw [d10, takeAt' (putB_len _ _), numB_putB]; exact Nat.mod_eq_of_lt (by omega)
  unfold repRd
  rw [if_neg (by omega), if_neg (by omega), if_pos hgd, n1, n2, g9]
theorem rep_good {key l : List Nat} (h : (repRd key l).err = 0) : l.length = 24 ∧ goodB key (l.take 14) (l.drop 14) = true := by
  unfold repRd at h
  split at h
  · cases h
  split at h
  · cases h
  split at h
  · next hg => exact ⟨by omega, hg⟩
  · cases h
end Go.Proofs.Ytcempndfbckcaaa
