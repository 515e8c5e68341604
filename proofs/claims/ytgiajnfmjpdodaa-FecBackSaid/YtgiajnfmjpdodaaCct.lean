/- slices.Concat of bytes, and rows of bytes, apart from any program's package (the same words as in ShU, McC, McD). -/
import Derived.Test.YtgiajnfmjpdodaaApz
import Derived.Test.YtgiajnfmjpdodaaCln
import Derived.Test.YtgiajnfmjpdodaaGKi
namespace Go.Proofs.Ytgiajnfmjpdodaa
open Go.RowKit

/-- v reads as n slices of bytes. -/
def SM (w : World) (v : Value) (n : Nat) (rows : List (List Nat)) : Prop :=
  rows.length = n ∧ ∃ xs, Sls w 1 v n xs ∧ ∀ i x, xs[i]? = some x → ∃ ln, SB w x ln (rows.getD i [])
theorem SM.below {w w' : World} {v : Value} {n : Nat} {rows : List (List Nat)} (h : SM w v n rows) {B : Nat} (hb : Below B w w') (hB : w.heap.size ≤ B) : SM w' v n rows := by
  obtain ⟨h1, xs, h2, h3⟩ := h
  refine ⟨h1, xs, h2.below hb hB, fun i x hx => ?_⟩
  obtain ⟨ln, h4⟩ := h3 i x hx
  exact ⟨ln, h4.below hb hB⟩
theorem SM.alloc {w : World} {v : Value} {n : Nat} {rows : List (List Nat)} (h : SM w v n rows) (o : Obj) : SM (w.alloc o) v n rows := h.below ((Below.refl _ _).alloc (Nat.le_refl _) o) (Nat.le_refl _)
theorem SM.nil (w : World) : SM w (.slice none 0 0) 0 [] := ⟨rfl, [], ⟨rfl, by decide, .inl ⟨rfl, none, 0, rfl, fun _ => rfl, by decide⟩⟩, fun i x h => by simp at h⟩
theorem SM.one (w : World) (x : Value) (ln : Nat) (l : List Nat) (h : SB w x ln l) : SM (w.alloc (.cells #[x] 22)) (.slice (some ⟨w.heap.size, 0, none⟩) 1 1) 1 [l] := by
  refine ⟨rfl, [x], ⟨rfl, by decide, .inr ⟨w.heap.size, 0, 1, rfl, Nat.le_refl _, by decide, by simp, fun j hj => ?_⟩⟩, fun i y hy => ?_⟩
  · obtain rfl : j = 0 := by omega
    simp [go_sem]
  · have hi : i = 0 := by
      rcases Nat.eq_zero_or_pos i with h | h
      · exact h
      · rw [List.getElem?_eq_none (by simp; omega)] at hy; cases hy
    subst hi
    simp at hy
    subst hy
    exact ⟨ln, h.alloc _⟩
theorem SM.form {w : World} {v : Value} {n : Nat} {rows : List (List Nat)} (h : SM w v n rows) (h0 : 0 < n) : ∃ b o cap, v = .slice (some ⟨b, o, none⟩) n cap ∧ n ≤ cap ∧ cap ≤ maxLen ∧ b < w.heap.size ∧ ∀ j, j < n → ∃ s ln c, w.cell? ⟨b, o + j, none⟩ = some (.slice s ln c) ∧ SB w (.slice s ln c) ln (rows.getD j []) := by
  obtain ⟨h1, xs, h2, h3⟩ := h
  obtain ⟨b, o, cap, rfl, hn, hc, hb, hcell⟩ := h2.form h0
  refine ⟨b, o, cap, rfl, hn, hc, hb, fun j hj => ?_⟩
  have hlx : j < xs.length := by rw [h2.1]; omega
  obtain ⟨ln, h4⟩ := h3 j _ (List.getElem?_eq_getElem hlx)
  obtain ⟨s, c, he, _, _⟩ := h4.len
  refine ⟨s, ln, c, ?_, by rw [← he]; exact h4⟩
  rw [hcell j (by omega), List.getElem?_eq_getElem hlx, he]
theorem SM.len {w : World} {v : Value} {n : Nat} {rows : List (List Nat)} (h : SM w v n rows) : ∃ sa cap, v = .slice sa n cap ∧ n ≤ cap ∧ cap ≤ maxLen := by
  obtain ⟨h1, xs, h2, h3⟩ := h
  exact h2.len
theorem flat_step (rows : List (List Nat)) (i : Nat) (h : i < rows.length) : (rows.take (i + 1)).flatten = (rows.take i).flatten ++ rows.getD i [] := by
  rw [List.take_succ_eq_append_getElem h, List.flatten_append, List.getD_eq_getElem?_getD, List.getElem?_eq_getElem h]
  simp
theorem flat_le (rows : List (List Nat)) (i : Nat) : (rows.take i).flatten.length ≤ rows.flatten.length := by
  conv => rhs; rw [← List.take_append_drop i rows, List.flatten_append, List.length_append]
  omega

theorem slSS : SlTy Try.prog 117 22 1 24 := SlTy.mk' Try.underlying117 (by kernel_rfl) (by decide)
theorem SM.bw {a b : World} {v : Value} {n : Nat} {rows : List (List Nat)} (h : SM a v n rows) (hb : BW a b) : SM b v n rows := h.below hb (Nat.le_refl _)
/-- Rows behind one more. -/
theorem SM.cons {w : World} {v : Value} {n : Nat} {x : Value} {ln : Nat} {l : List Nat} {ys : List Value} {rows : List (List Nat)} (h : Sls w 1 v (1 + n) ([x] ++ ys)) (hx : SB w x ln l) (hl : rows.length = n) (hy : ∀ (i : Nat) (y : Value), ys[i]? = some y → ∃ ln, SB w y ln (rows.getD i [])) : SM w v (1 + n) (l :: rows) := by
  refine ⟨by simp [hl]; omega, [x] ++ ys, h, fun i y hi => ?_⟩
  cases i with
  | zero => simp at hi; subst hi; exact ⟨ln, by simpa using hx⟩
  | succ i => simp at hi; simpa using hy i y hi
theorem SM.two (w : World) (x : Value) (lx : Nat) (l : List Nat) (y : Value) (ly : Nat) (k : List Nat) (hx : SB w x lx l) (hy : SB w y ly k) : SM (w.alloc (.cells #[x, y] 22)) (.slice (some ⟨w.heap.size, 0, none⟩) 2 2) 2 [l, k] := by
  refine ⟨rfl, [x, y], ⟨rfl, by decide, .inr ⟨w.heap.size, 0, 2, rfl, Nat.le_refl _, by decide, by simp, fun j hj => ?_⟩⟩, fun i z hz => ?_⟩
  · rcases (show j = 0 ∨ j = 1 by omega) with rfl | rfl <;> simp [go_sem]
  · match i, hz with
    | 0, hz => simp at hz; subst hz; exact ⟨lx, hx.alloc _⟩
    | 1, hz => simp at hz; subst hz; exact ⟨ly, hy.alloc _⟩
    | i + 2, hz => simp at hz
/-- append(v, make([]byte, k)...) -/
theorem wpList_apOBz {ops : Array Oper} {rest : List Oper} {o : Oper} {a : Act} {w : World} {Q : Exit → Act → World → Prop} (hgd : o.guard = none) (s x : Operand)
    (ho : o.op = .call { callee := .builtin .append, args := #[s, x], argTypes := #[22, 3] }) (base : Nat) (v : Value) (n : Nat) (l : List Nat) (hs : a.eval s = v) (hown : OB w base 5 v n l) (k : Nat) (hx : a.eval x = .int .i64 k)
    (hsz : n + k ≤ 1000000000000) (hbase : base ≤ w.heap.size)
    (h : ∀ sa cap w', n + k ≤ cap → cap ≤ maxLen → OB w' base 5 (.slice sa (n + k) cap) (n + k) (l ++ List.replicate k 0) → Still v.ownBlock.toList w w' → Below base w w' → (∀ j, (Value.slice sa (n + k) cap).ownBlock = some j → v.ownBlock = some j ∨ w.heap.size ≤ j) → wpList Try.prog ops Q rest (a.put o.dst (.slice sa (n + k) cap)) w') : wpList Try.prog ops Q (o :: rest) a w := by
  refine wpList_plain hgd fun _ hK => ?_
  have key := fun ty => run_append_ob_zeros (P := Try.prog) w Try.underlying22 zU8' (tn := 3) Try.underlying3 ty base v n l hown k hsz hbase
  obtain ⟨v', w', h1, h2, h3, h4⟩ := key 0
  obtain ⟨sa, cap, rfl, hc, hm⟩ := h2.len
  refine wp_append_run 22 3 s x ho v (.int .i64 k) _ hs hx (fun ty => by rw [← h1]; rfl) (hK _ _ (h sa cap w' hc hm h2 (Still.of_row h3) (Ows.grown hbase (Nat.le_refl _) hown.2.2 h3) h4))
theorem OB.cut0 {w : World} {base : Nat} {E : TypeId} {g o n cap : Nat} {l : List Nat} (h : OB w base E (.slice (some ⟨g, o, none⟩) n cap) n l) : OB w base E (.slice (some ⟨g, o, none⟩) 0 cap) 0 [] := by
  obtain ⟨_, _, h1, ⟨h2, _⟩ | ⟨g', o1, cap', cur, he, hg, hh, hn, hc, hs, ht⟩⟩ := h
  · cases h2
  · cases he
    exact ⟨rfl, by simp [ByL], rfl, .inr ⟨g, o, cap, cur, rfl, hg, hh, Nat.zero_le _, hc, hs, by simp [bvs]⟩⟩

set_option maxRecDepth 100000 in
set_option maxHeartbeats 4000000 in
theorem grow_ok (k : Nat) (hk : k ≤ 1000000000) (w : World) :
    Calls Try.prog 97 #[.slice none 0 0, .int .i64 (k : Nat)] w fun e w' => ∃ v, e = .returned v ∧ OB w' w.heap.size 5 v 0 [] ∧ Below w.heap.size w w' := by
  have O0 := Lib.hid (OB.nil w w.heap.size 5)
  go_enter Try.func97, Try.ntmps97
  by_cases h0 : k = 0
  · subst h0
    go_wp2_with fail
    go_ret
    exact ⟨_, rfl, O0.out, Below.refl _ _⟩
  · have h1 : (0 : Int) < k := by omega
    go_wp2_with (at_builtin; go_must (refine wpList_apOBz rfl _ _ rfl w.heap.size _ 0 [] rfl O0.out k rfl (by omega) (Nat.le_refl _) ?_; intro s5 c5 w5 hc5 hm5 O5 T5 B5 G5; rw [Nat.zero_add] at O5; obtain ⟨g5, o5, c6, he, _⟩ := O5.form (by omega); cases he; simp only [Nat.zero_add]; have O6 := Lib.hid O5.cut0; replace B5 := Lib.hid B5; unfold maxLen at hm5; clear T5 G5 O5))
    go_ret
    exact ⟨_, rfl, O6.out, B5.out⟩

set_option maxRecDepth 100000 in
set_option maxHeartbeats 4000000 in
theorem concat_ok (v : Value) (n : Nat) (rows : List (List Nat)) (hsz : rows.flatten.length ≤ 1000000000) (w : World) (hv : SM w v n rows) :
    Calls Try.prog 77 #[v] w fun e w' => ∃ v', e = .returned v' ∧ OB w' w.heap.size 5 v' rows.flatten.length rows.flatten ∧ Below w.heap.size w w' := by
  obtain ⟨sv, cv, rfl, hcv, hmv⟩ := hv.len
  unfold maxLen at hmv
  have hrl := Lib.hid hv.1
  replace hv := Lib.hid hv
  go_enter Try.func77, Try.ntmps77
  go_wp2_with fail
  go_loopg [3, 11] n (fun m' s i wx => ∃ j : Nat, m' = n - j ∧ j ≤ n ∧ i = .int .i64 (j : Nat) ∧ s = .int .i64 ((rows.take j).flatten.length : Nat) ∧ wx = w)
  case atStart => exact ⟨0, by omega, by omega, rfl, rfl, rfl⟩
  case round =>
    obtain ⟨j, rfl, hj, rfl, rfl, rfl⟩ := hrel
    by_cases hjn : j < n
    · obtain ⟨b, o, cap, he, _, _, _, hcell⟩ := hv.out.form (by omega)
      cases he
      obtain ⟨s, ln, c, hc, hSB⟩ := hcell j hjn
      have hst := Lib.hid (flat_step rows j (by rw [hrl.out]; exact hjn))
      have hle := flat_le rows (j + 1)
      rw [hst.out, List.length_append, hSB.1] at hle
      have hln := Lib.hid hSB.1
      generalize hq : (rows.take j).flatten.length = q at *
      replace hq := Lib.hid hq
      clear hcell hSB
      go_wp2_with fail
      go_roundg (n - (j + 1))
      case measure => omega
      case rel => exact ⟨j + 1, rfl, by omega, by go_num, by rw [hst.out, List.length_append, hln.out, hq.out]; exact congrArg _ (by push_cast; rfl), rfl⟩
    · obtain rfl : j = n := by omega
      have hall : rows.take j = rows := List.take_of_length_le (by rw [hrl.out]; exact Nat.le_refl _)
      rw [hall]
      generalize hT : rows.flatten.length = T at *
      replace hT := Lib.hid hT
      replace hall := Lib.hid hall
      go_wp2_with fail
      refine (grow_ok T hsz _).mono ?_
      rintro e w1 ⟨v1, rfl, O1, B1⟩
      obtain ⟨s1, c1, rfl, hc1, hm1⟩ := O1.len
      unfold maxLen at hm1
      replace O1 := Lib.hid O1
      replace B1 := Lib.hid B1
      dsimp only
      obtain ⟨w0, rfl⟩ : ∃ x, x = wr := ⟨_, rfl⟩
      go_wp2_with fail
      go_loopg [6, 27] j (fun m' mv i wx => ∃ (t : Nat) (s : Option Addr) (L c : Nat), m' = j - t ∧ t ≤ j ∧ i = .int .i64 (t : Nat) ∧ mv = .slice s L c ∧ L ≤ T ∧ L ≤ c ∧ c ≤ 2 ^ 63 - 1 ∧ Hid (OB wx w0.heap.size 5 mv L (rows.take t).flatten) ∧ Hid (Below w0.heap.size w0 wx))
      case atStart => exact ⟨0, s1, 0, c1, by omega, by omega, rfl, rfl, by omega, hc1, hm1, O1, B1⟩
      case round =>
        clear O1 B1 hc1 hm1
        obtain ⟨t, s2, L, c2, rfl, ht, rfl, rfl, hLT, hLc, hcm, O2, B2⟩ := hrel
        by_cases htj : t < j
        · obtain ⟨b, o, cap, he, _, _, hbw, hcell⟩ := hv.out.form (by omega)
          cases he
          obtain ⟨s, ln, c, hc, hSB⟩ := hcell t htj
          have hc1 := B2.out.cell (p := ⟨b, o + t, none⟩) hbw
          rw [hc] at hc1
          have hst := Lib.hid (flat_step rows t (by rw [hrl.out]; exact htj))
          have hle := flat_le rows (t + 1)
          rw [hst.out, List.length_append, hSB.1, hT.out, O2.out.1] at hle
          have V2 := Lib.hid (hSB.below B2.out (Nat.le_refl _))
          have hz2 := B2.out.size
          clear hcell hSB hc
          go_wp2_with (at_builtin; go_must (refine wpList_apOB rfl _ _ rfl w0.heap.size _ L _ rfl O2.out _ rfl ln _ V2.out (by omega) hz2 ?_; intro s4 c4 w4 hc4 hm4 O4 T4 B4 G4; rw [← hst.out] at O4; replace O4 := Lib.hid O4; replace B4 := Lib.hid (B2.out.trans B4); clear T4 G4; unfold maxLen at hm4))
          go_roundg (j - (t + 1))
          case measure => omega
          case rel => exact ⟨t + 1, s4, L + ln, c4, rfl, by omega, by go_num, rfl, by omega, hc4, hm4, O4, B4⟩
        · obtain rfl : t = j := by omega
          rw [hall.out] at O2
          have hLe := O2.out.1
          rw [hT.out] at hLe
          go_wp2_with fail
          go_ret
          exact ⟨_, rfl, by rw [O2.out.1]; exact O2.out, B2.out⟩
end Go.Proofs.Ytgiajnfmjpdodaa
