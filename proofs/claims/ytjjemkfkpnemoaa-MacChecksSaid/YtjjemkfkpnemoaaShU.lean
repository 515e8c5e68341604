/- sha's Sum of parts. No condition but the sizes'. -/
import Derived.Test.YtjjemkfkpnemoaaShD
import Derived.Test.YtjjemkfkpnemoaaApO
namespace Go.Proofs.Ytjjemkfkpnemoaa
open Go.RowKit

/-- v reads as n slices of bytes. -/
def SM (w : World) (v : Value) (n : Nat) (rows : List (List Nat)) : Prop :=
  rows.length = n ∧ ∃ xs, Sls w 1 v n xs ∧ ∀ i x, xs[i]? = some x → ∃ ln, SB w x ln (rows.getD i [])
theorem SM.below {w w' : World} {v : Value} {n : Nat} {rows : List (List Nat)} (h : SM w v n rows) {B : Nat} (hb : Below B w w') (hB : w.heap.size ≤ B) : SM w' v n rows := by
  obtain ⟨h1, xs, h2, h3⟩ := h
  refine ⟨h1, xs, h2.below hb hB, fun i x hx => ?_⟩
  obtain ⟨ln, h4⟩ := h3 i x hx
  exact ⟨ln, h4.below hb hB⟩
theorem SM.alloc {w : World} {v : Value} {n : Nat} {rows : List (List Nat)} (h : SM w v n rows) (o : Obj) : SM (w.alloc o) v n rows := h.below ((Below.refl _ _).alloc (Nat.le_refl _) o) (Nat.le_refl _)
theorem SM.nil (w : World) : SM w (.slice none 0 0) 0 [] := ⟨rfl, [], ⟨rfl, by decide, .inl ⟨rfl, none, 0, rfl, fun _ => rfl, by decide⟩⟩, fun i x h => by simp at h⟩
theorem SM.one (w : World) (x : Value) (ln : Nat) (l : List Nat) (h : SB w x ln l) : SM (w.alloc (.cells #[x] 37)) (.slice (some ⟨w.heap.size, 0, none⟩) 1 1) 1 [l] := by
  refine ⟨rfl, [x], ⟨rfl, by decide, .inr ⟨w.heap.size, 0, 1, rfl, Nat.le_refl _, by decide, by simp, fun j hj => ?_⟩⟩, fun i y hy => ?_⟩
  · obtain rfl : j = 0 := by omega
    simp [go_sem]
  · have hi : i = 0 := by
      rcases Nat.eq_zero_or_pos i with h | h
      · exact h
      · rw [List.getElem?_eq_none (by simp; omega)] at hy; cases hy
    subst hi
    simp at hy
    subst hy
    exact ⟨ln, h.alloc _⟩
theorem SM.form {w : World} {v : Value} {n : Nat} {rows : List (List Nat)} (h : SM w v n rows) (h0 : 0 < n) : ∃ b o cap, v = .slice (some ⟨b, o, none⟩) n cap ∧ n ≤ cap ∧ cap ≤ maxLen ∧ b < w.heap.size ∧ ∀ j, j < n → ∃ s ln c, w.cell? ⟨b, o + j, none⟩ = some (.slice s ln c) ∧ SB w (.slice s ln c) ln (rows.getD j []) := by
  obtain ⟨h1, xs, h2, h3⟩ := h
  obtain ⟨b, o, cap, rfl, hn, hc, hb, hcell⟩ := h2.form h0
  refine ⟨b, o, cap, rfl, hn, hc, hb, fun j hj => ?_⟩
  have hlx : j < xs.length := by rw [h2.1]; omega
  obtain ⟨ln, h4⟩ := h3 j _ (List.getElem?_eq_getElem hlx)
  obtain ⟨s, c, he, _, _⟩ := h4.len
  refine ⟨s, ln, c, ?_, by rw [← he]; exact h4⟩
  rw [hcell j (by omega), List.getElem?_eq_getElem hlx, he]
theorem SM.len {w : World} {v : Value} {n : Nat} {rows : List (List Nat)} (h : SM w v n rows) : ∃ sa cap, v = .slice sa n cap ∧ n ≤ cap ∧ cap ≤ maxLen := by
  obtain ⟨h1, xs, h2, h3⟩ := h
  exact h2.len
theorem flat_step (rows : List (List Nat)) (i : Nat) (h : i < rows.length) : (rows.take (i + 1)).flatten = (rows.take i).flatten ++ rows.getD i [] := by
  rw [List.take_succ_eq_append_getElem h, List.flatten_append, List.getD_eq_getElem?_getD, List.getElem?_eq_getElem h]
  simp
theorem flat_le (rows : List (List Nat)) (i : Nat) : (rows.take i).flatten.length ≤ rows.flatten.length := by
  conv => rhs; rw [← List.take_append_drop i rows, List.flatten_append, List.length_append]
  omega

set_option maxRecDepth 100000 in
set_option maxHeartbeats 8000000 in
theorem shasum_any (v : Value) (n : Nat) (rows : List (List Nat)) (hsz : rows.flatten.length ≤ 1000000000) (w : World) (hv : SM w v n rows) :
    Calls Try.prog 27 #[v] w fun e w' => e = .returned (.agg (ivA .u8 (sumN rows.flatten))) ∧ Below w.heap.size w w' := by
  obtain ⟨sv, cv, rfl, hcv, hmv⟩ := hv.len
  unfold maxLen at hmv
  have hrl := Lib.hid hv.1
  have hDl : Hid ((sumN rows.flatten).length = 20) := by unfold Hid sumN; simp [digest, putB_len]
  replace hv := Lib.hid hv
  generalize hD : sumN rows.flatten = D at *
  replace hD := Lib.hid hD
  go_enter Try.func27, Try.ntmps27
  have R0 := Lib.hid (hp_new w (.cells (ivA .u8 (zeros 20)) 42) _ rfl)
  have B0 := Lib.hid ((Below.refl w.heap.size w).alloc (Nat.le_refl _) (.cells (ivA .u8 (zeros 20)) 42))
  go_wp2_with (refine wpList_alloc_of rfl 42 rfl _ zero20 ?_)
  generalize w.alloc (.cells (ivA .u8 (zeros 20)) 42) = w0 at *
  refine (shanew_any _).mono ?_
  rintro e w1 ⟨g, rfl, hS, hb⟩
  have S1 := Lib.hid (hS.up (base' := w.heap.size) B0.out.size)
  have R1 := Lib.hid (hp_bel hb R0.out (hp_lt R0.out))
  have B1 := Lib.hid (B0.out.trans (hb.mono B0.out.size))
  clear hb R0 B0 hS
  dsimp only
  go_wp2_with fail
  go_loopg [9] n (fun m' i wx => ∃ (j : Nat) (vl : Value), m' = n - j ∧ j ≤ n ∧ i = .int .i64 (j : Nat) ∧ Hid (StV wx w.heap.size g (rows.take j).flatten vl) ∧ Hid (wx.heap[w.heap.size]? = some (.cells (ivA .u8 (zeros 20)) 42 (0, 0))) ∧ Hid (Below w.heap.size w wx))
  case atStart => exact ⟨0, _, by omega, by omega, rfl, S1, R1, B1⟩
  case round =>
    clear S1 R1 B1
    obtain ⟨j, vl, rfl, hj, rfl, S2, R2, B2⟩ := hrel
    by_cases hjn : j < n
    · obtain ⟨b, o, cap, he, _, _, _, hcell⟩ := (hv.out.below B2.out (Nat.le_refl _)).form (by omega)
      cases he
      obtain ⟨s, ln, c, hc, hSB⟩ := hcell j hjn
      have hst := Lib.hid (flat_step rows j (by rw [hrl.out]; exact hjn))
      have hle := flat_le rows (j + 1)
      rw [hst.out, List.length_append, hSB.1] at hle
      have wr' := Lib.hid (write_any w.heap.size g (rows.take j).flatten vl (.slice s ln c) ln (rows.getD j []) (by omega) wr S2.out hSB B2.out.size)
      have hge := Lib.hid S2.out.ge
      have hni : Hid (w.heap.size ∉ stS g vl) := fun hm => by
        rcases List.mem_cons.1 hm with h | h
        · have h1 := R2.out
          have h2 : wr.heap[g]? = _ := S2.out.st
          rw [← h, h1] at h2
          cases h2
        · exact S2.out.lf.2.2.notin R2.out (by decide) h
      clear hcell hSB hle
      go_wp2_with fail
      refine wr'.out.mono ?_
      rintro e w3 ⟨rfl, vl', S3, T3, _⟩
      rw [← hst.out] at S3
      replace S3 := Lib.hid S3
      have R3 := Lib.hid (hp_st T3 R2.out hni.out)
      have B3 := Lib.hid (B2.out.trans (T3.below B2.out.size hge.out))
      clear T3 R2 B2 S2 wr' hge hni
      dsimp only
      go_wp2_with fail
      go_roundg (n - (j + 1))
      case measure => omega
      case rel => exact ⟨j + 1, vl', rfl, by omega, by go_num, S3, R3, B3⟩
    · obtain rfl : j = n := by omega
      have hall : rows.take j = rows := List.take_of_length_le (by rw [hrl.out]; exact Nat.le_refl _)
      rw [hall] at S2
      have dn := Lib.hid (done_any w.heap.size g rows.flatten vl (by omega) wr S2.out)
      clear hall
      rw [hD.out] at dn
      go_wp2_with fail
      refine dn.out.mono ?_
      rintro e w3 ⟨rfl, hb⟩
      have R3 := Lib.hid (hp_bel hb R2.out (hp_lt R2.out))
      have B3 := Lib.hid (B2.out.trans (hb.mono B2.out.size))
      clear hb R2 B2 S2 dn
      dsimp only
      go_wp2_with (refine wpList_store_row rfl 42 _ _ rfl _ (ivA .u8 D) rfl rfl _ _ R3.out (by rw [info20, ivA_size, hDl.out]) (by rw [ivA_size, ivA_size, hDl.out, zeros_len]) (ivA_one _ _) ?_)
      exact bodyPost_ret (results_cell_row (p := 2) rfl _ _ w.heap.size _ _ _ _ rfl (hp_row R3.out _) Try.underlying42 rfl (by rw [info20, ivA_size, hDl.out])) rfl ⟨rfl, Below.setRow B3.out (by omega) _⟩
end Go.Proofs.Ytjjemkfkpnemoaa
