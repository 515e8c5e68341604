/- Plain laws on the words: each word out of those ahead of it. The reference's new cipher has the words of the key. No condition. -/
import Derived.Test.YtikmhlbpefednaaGreatAesV
namespace Go.Proofs.YtikmhlbpefednaaGreat
open Go.RowKit
theorem wput_new (W : List Nat) (rd a : Nat) : ∀ i j, j < i → a + i ≤ W.length → (wput W rd a i).getD (a + j) 0 = W.getD (a - 16 + j) 0 ^^^ wt W rd a j
 | 0, _, h, _ => by omega
 | i + 1, j, h, hl => by
  rw [wput]
  by_cases hj : j = i
  ·subst hj
   rw [List.getD_eq_getElem?_getD, List.getElem?_set_self (by rw [wput_len]; omega)]; rfl
  ·rw [List.getD_eq_getElem?_getD, List.getElem?_set_ne (by omega), ← List.getD_eq_getElem?_getD]
   exact wput_new W rd a i j (by omega) (by omega)
theorem ws_keep (key : List Nat) (n : Nat) : ∀ d idx, idx < 16 + 4 * n → (ws key (n + d)).1.getD idx 0 = (ws key n).1.getD idx 0
 | 0, _, _ => rfl
 | d + 1, idx, h => by
  rw [show n + (d + 1) = (n + d) + 1 from rfl, ws]
  rw [wput_old _ _ _ _ _ (by omega)]
  exact ws_keep key n d idx h
theorem W_key (key : List Nat) (hk : key.length = 16) (j : Nat) (hj : j < 16) : (wordsN key).getD j 0 = key.getD j 0 := by
 have h := ws_keep key 0 40 j (by omega)
 rw [Nat.zero_add] at h
 rw [wordsN_eq, h, ws]
 simp only [List.getD_eq_getElem?_getD]
 rw [List.getElem?_append_left (by omega)]
def rk (key : List Nat) (i : Nat) : Nat := (ws key (i - 4)).2
theorem rk_next (key : List Nat) (i : Nat) (h : 4 ≤ i) : rk key (i + 1) = if i % 4 = 0 then dbl (rk key i) else rk key i := by
 unfold rk
 rw [show i + 1 - 4 = (i - 4) + 1 by omega, ws]
 have : (16 + 4 * (i - 4)) % 16 = 0 ↔ i % 4 = 0 := by omega
 simp only [this]
theorem rk_low (key : List Nat) (i : Nat) (h : i ≤ 4) : rk key i = 1 := by
 unfold rk; rw [show i - 4 = 0 by omega]; rfl
theorem rk_lt (key : List Nat) (hB : Byt key) (i : Nat) : rk key i < 256 := (ws_byt key hB _).2
theorem wt_congr (W W' : List Nat) (rd a j : Nat) (hj : j < 4) (ha : 4 ≤ a) (h : ∀ i, i < a → W.getD i 0 = W'.getD i 0) : wt W rd a j = wt W' rd a j := by
 unfold wt
 rw [h (a - 3) (by omega), h (a - 2) (by omega), h (a - 1) (by omega), h (a - 4) (by omega), h (a - 4 + j) (by omega)]
theorem W_rec (key : List Nat) (hk : key.length = 16) (i j : Nat) (h4 : 4 ≤ i) (hi : i < 44) (hj : j < 4) :
  (wordsN key).getD (4 * i + j) 0 = (wordsN key).getD (4 * (i - 4) + j) 0 ^^^ wt (wordsN key) (rk key i) (4 * i) j := by
 have hlen := ws_len key hk (i - 4)
 have hold : ∀ idx, idx < 4 * i → (wordsN key).getD idx 0 = (ws key (i - 4)).1.getD idx 0 := fun idx h => by
  have := ws_keep key (i - 4) (40 - (i - 4)) idx (by omega)
  rw [show i - 4 + (40 - (i - 4)) = 40 by omega] at this
  rw [wordsN_eq]; exact this
 have hnew := ws_keep key (i - 4 + 1) (40 - (i - 4 + 1)) (4 * i + j) (by omega)
 rw [show i - 4 + 1 + (40 - (i - 4 + 1)) = 40 by omega, ← wordsN_eq] at hnew
 rw [hnew, ws]
 have e : 16 + 4 * (i - 4) = 4 * i := by omega
 rw [e, wput_new _ _ _ 4 j hj (by omega), show 4 * i - 16 + j = 4 * (i - 4) + j by omega]
 rw [hold (4 * (i - 4) + j) (by omega)]
 congr 1
 exact (wt_congr _ _ _ _ j hj (by omega) hold).symm
theorem times2 (r : Nat) (h : r < 256) : timesP r 2 = dbl r := by
 have := allR 256 (fun r => sumP 8 r 2 == dbl r) (by decide +kernel) r h
 unfold timesP; rw [titer_eq]; exact beq_iff_eq.1 this
def rowW (W : List Nat) (i : Nat) : List Nat := [W.getD (4 * i) 0, W.getD (4 * i + 1) 0, W.getD (4 * i + 2) 0, W.getD (4 * i + 3) 0]
def rowTo (W : List Nat) (i k : Nat) : List Nat := (rowW W i).take k
theorem rowTo_len (W : List Nat) (i k : Nat) (hk : k ≤ 4) : (rowTo W i k).length = k := by simp [rowTo, rowW]; omega
theorem rowTo_snoc (W : List Nat) (i k : Nat) (hk : k < 4) : rowTo W i k ++ [W.getD (4 * i + k) 0] = rowTo W i (k + 1) := by
 rcases (show k = 0 ∨ k = 1 ∨ k = 2 ∨ k = 3 by omega) with rfl | rfl | rfl | rfl <;> rfl
def tv (W : List Nat) (rd i : Nat) : List Nat := [wt W rd (4 * i) 0, wt W rd (4 * i) 1, wt W rd (4 * i) 2, wt W rd (4 * i) 3]
theorem rowW_get (W : List Nat) (i k : Nat) (hk : k < 4) : (rowW W i).getD k 0 = W.getD (4 * i + k) 0 := by
 rcases (show k = 0 ∨ k = 1 ∨ k = 2 ∨ k = 3 by omega) with rfl | rfl | rfl | rfl <;> rfl
theorem tv_get (W : List Nat) (rd i k : Nat) (hk : k < 4) : (tv W rd i).getD k 0 = wt W rd (4 * i) k := by
 rcases (show k = 0 ∨ k = 1 ∨ k = 2 ∨ k = 3 by omega) with rfl | rfl | rfl | rfl <;> rfl
theorem tv_turn (W : List Nat) (rd i : Nat) (h4 : 4 ≤ i) (h : i % 4 = 0) : tv W rd i = [sbox.getD (W.getD (4 * (i - 1) + 1) 0) 0 ^^^ rd, sbox.getD (W.getD (4 * (i - 1) + 2) 0) 0, sbox.getD (W.getD (4 * (i - 1) + 3) 0) 0, sbox.getD (W.getD (4 * (i - 1)) 0) 0] := by
 have h16 : 4 * i % 16 = 0 := by omega
 simp only [tv, wt, h16, if_true, show ¬ (1 = 0) by decide, show ¬ (2 = 0) by decide, show ¬ (2 = 1) by decide, show ¬ (3 = 0) by decide, show ¬ (3 = 1) by decide, show ¬ (3 = 2) by decide, if_false]
 rw [show 4 * i - 3 = 4 * (i - 1) + 1 by omega, show 4 * i - 2 = 4 * (i - 1) + 2 by omega, show 4 * i - 1 = 4 * (i - 1) + 3 by omega, show 4 * i - 4 = 4 * (i - 1) by omega]
theorem tv_same (W : List Nat) (rd i : Nat) (h4 : 4 ≤ i) (h : ¬ i % 4 = 0) : tv W rd i = rowW W (i - 1) := by
 have h16 : ¬ 4 * i % 16 = 0 := by omega
 simp only [tv, wt, h16, if_false, rowW]
 rw [show 4 * i - 4 = 4 * (i - 1) by omega]
 rfl
end Go.Proofs.YtikmhlbpefednaaGreat

namespace Go.Proofs.YtikmhlbpefednaaGreat
open Go.RowKit
theorem slM : SlT Tryz.prog 155 35 1 24 := SlT.mk' Tryz.underlying155 (by kernel_rfl) (by decide)
theorem Own.ne {w : World} {base : Nat} {E : TypeId} {v : Value} {xs : List Value} (h : Own w base E v xs) {b : Nat} {cs : Array Value} {t : TypeId} {fr : Nat × Nat} (hb : w.heap[b]? = some (.cells cs t fr)) (ht : t ≠ E) : ∀ g, v.ownBlock = some g → g ≠ b := by
 obtain ⟨h1, ⟨rfl, _⟩ | ⟨g, cap, cur, rfl, hg, hh, r⟩⟩ := h
 ·intro g hg; cases hg
 ·intro g' hg' e
  cases hg'
  subst e
  rw [hb] at hh
  cases hh
  exact ht rfl
def OwnM (w : World) (base : Nat) (v : Value) (rows : List (List Nat)) : Prop :=
 ∃ xs, Own w base 35 v xs ∧ xs.length = rows.length ∧ ∀ i x, xs[i]? = some x → Own w base 5 x (vb (rows.getD i []))
theorem OwnM.nil (w : World) (base : Nat) : OwnM w base (.slice none 0 0) [] := ⟨[], Own.nil _ _ _, rfl, fun i x h => by simp at h⟩
theorem OwnM.below {w w' : World} {base B : Nat} {v : Value} {rows : List (List Nat)} (h : OwnM w base v rows) (hb : Below B w w') (hB : w.heap.size ≤ B) : OwnM w' base v rows := by
 obtain ⟨xs, h1, h2, h3⟩ := h
 exact ⟨xs, h1.below hb hB, h2, fun i x hx => (h3 i x hx).below hb hB⟩
theorem OwnM.up {w : World} {base base' : Nat} {v : Value} {rows : List (List Nat)} (h : OwnM w base v rows) (hb : base' ≤ base) : OwnM w base' v rows := by
 obtain ⟨xs, h1, h2, h3⟩ := h
 exact ⟨xs, h1.up hb, h2, fun i x hx => (h3 i x hx).up hb⟩
theorem OwnM.set_other {w : World} {base : Nat} {v : Value} {rows : List (List Nat)} (h : OwnM w base v rows) {b : Nat} {cs : Array Value} {t : TypeId} {fr : Nat × Nat} (hb : w.heap[b]? = some (.cells cs t fr)) (h1 : t ≠ 5) (h2 : t ≠ 35) (o : Nat) (u : Value) : OwnM (w.setCell ⟨b, o, none⟩ u) base v rows := by
 obtain ⟨xs, k1, k2, k3⟩ := h
 exact ⟨xs, k1.set_other (k1.ne hb h2) u, k2, fun i x hx => (k3 i x hx).set_other ((k3 i x hx).ne hb h1) u⟩
theorem OwnM.form {w : World} {base : Nat} {v : Value} {rows : List (List Nat)} (h : OwnM w base v rows) {n : Nat} (hn : rows.length = n) (h0 : 0 < n) :
  ∃ g cap, v = .slice (some ⟨g, 0, none⟩) n cap ∧ n ≤ cap ∧ cap ≤ maxLen ∧ ∀ i, i < n → ∃ x, w.cell? ⟨g, i, none⟩ = some x ∧ Own w base 5 x (vb (rows.getD i [])) := by
 obtain ⟨xs, k1, k2, k3⟩ := h
 obtain ⟨g, cap, rfl, hg, hgl, hc, hm, hcell, _⟩ := k1.form (k2.trans hn) h0
 refine ⟨g, cap, rfl, hc, hm, fun i hi => ?_⟩
 have hlt : i < xs.length := by omega
 exact ⟨xs[i], by rw [hcell i hi, List.getElem?_eq_getElem hlt], k3 i _ (List.getElem?_eq_getElem hlt)⟩
theorem OwnM.len {w : World} {base : Nat} {v : Value} {rows : List (List Nat)} (h : OwnM w base v rows) {n : Nat} (hn : rows.length = n) : ∃ sa cap, v = .slice sa n cap ∧ n ≤ cap ∧ cap ≤ maxLen := by
 obtain ⟨xs, k1, k2, _⟩ := h
 obtain ⟨sa, cap, hv, h1, h2⟩ := k1.len
 exact ⟨sa, cap, by rw [hv, k2, hn], by omega, h2⟩
theorem OwnM.notin {w : World} {base : Nat} {v : Value} {rows : List (List Nat)} (h : OwnM w base v rows) {b : Nat} {cs : Array Value} {t : TypeId} {fr : Nat × Nat} (hb : w.heap[b]? = some (.cells cs t fr)) (h2 : t ≠ 35) : b ∉ v.ownBlock.toList := fun hm => by
 obtain ⟨xs, k1, _⟩ := h
 exact k1.ne hb h2 b (by simpa [Option.mem_toList] using hm) rfl
theorem wp_apM {o : Oper} {a : Act} {w : World} {K : Act → World → Prop} {Q : Exit → Act → World → Prop} (s x : Operand)
  (ho : o.op = .call { callee := .builtin .append, args := #[s, x], argTypes := #[155, 155] }) (base : Nat) (v : Value) (rows : List (List Nat)) (hs : a.eval s = v) (hown : OwnM w base v rows) {n : Nat} (hn : rows.length = n) (hn' : n ≤ 1000000)
  (b : Nat) (hx : a.eval x = .slice (some ⟨b, 0, none⟩) 1 1) (u : Value) (hu : w.cell? ⟨b, 0, none⟩ = some u) (h1 : u.oneCell' = true) (r : List Nat) (hr : Own w base 5 u (vb r)) (hbase : base ≤ w.heap.size)
  (h : ∀ v' w', OwnM w' base v' (rows ++ [r]) → w.grownBy w' v.ownBlock → K (a.put o.dst v') w') : o.wp Tryz.prog a w K Q := by
 obtain ⟨xs, k1, k2, k3⟩ := hown
 refine wp_ap1 slM s x ho base v xs hs k1 (k2.trans hn) b hx u hu h1 (by omega) (by decide) hbase fun g cap w' h2 h3 => h _ _ ⟨xs ++ [u], h2, by simp [k2], fun i y hy => ?_⟩ h3
 have hst : ∀ {y : Value} {l : List Nat}, Own w base 5 y (vb l) → Own w' base 5 y (vb l) := fun {y l} hy => by
  obtain ⟨q1, q2 | ⟨g', cap', cur, rfl, hg', hh, r'⟩⟩ := hy
  ·exact ⟨q1, .inl q2⟩
  ·refine ⟨q1, .inr ⟨g', cap', cur, rfl, hg', ?_, r'⟩⟩
   rw [h3.block g' (Array.getElem?_eq_some_iff.1 hh).1 (fun e => ?_), hh]
   exact k1.ne hh (by decide) g' e.symm rfl
 rcases Nat.lt_or_ge i xs.length with hi | hi
 ·rw [List.getElem?_append_left hi] at hy
  have := k3 i y hy
  rw [List.getD_eq_getElem?_getD, List.getElem?_append_left (by omega), ← List.getD_eq_getElem?_getD]
  exact hst this
 ·rw [List.getElem?_append_right hi] at hy
  have hi0 : i - xs.length = 0 := by
   rcases Nat.eq_zero_or_pos (i - xs.length) with h | h
   ·exact h
   ·rw [List.getElem?_eq_none (by simp; omega)] at hy; cases hy
  rw [hi0] at hy
  simp at hy
  subst hy
  rw [List.getD_eq_getElem?_getD, List.getElem?_append_right (by omega), show i - rows.length = 0 by omega]
  exact hst hr
theorem wpList_apM {ops : Array Oper} {rest : List Oper} {o : Oper} {a : Act} {w : World} {Q : Exit → Act → World → Prop} (hgd : o.guard = none) (s x : Operand)
  (ho : o.op = .call { callee := .builtin .append, args := #[s, x], argTypes := #[155, 155] }) (base : Nat) (v : Value) (rows : List (List Nat)) (hs : a.eval s = v) (hown : OwnM w base v rows) {n : Nat} (hn : rows.length = n) (hn' : n ≤ 1000000)
  (b : Nat) (hx : a.eval x = .slice (some ⟨b, 0, none⟩) 1 1) (u : Value) (hu : w.cell? ⟨b, 0, none⟩ = some u) (h1 : u.oneCell' = true) (r : List Nat) (hr : Own w base 5 u (vb r)) (hbase : base ≤ w.heap.size)
  (h : ∀ v' w', OwnM w' base v' (rows ++ [r]) → w.grownBy w' v.ownBlock → wpList Tryz.prog ops Q rest (a.put o.dst v') w') : wpList Tryz.prog ops Q (o :: rest) a w :=
 wpList_plain hgd fun _ hK => wp_apM s x ho base v rows hs hown hn hn' b hx u hu h1 r hr hbase fun v' w' k1 k2 => hK _ _ (h v' w' k1 k2)
def rowsW (W : List Nat) (k : Nat) : List (List Nat) := (List.range k).map (rowW W)
theorem rowsW_len (W : List Nat) (k : Nat) : (rowsW W k).length = k := by simp [rowsW]
theorem rowsW_get (W : List Nat) (k i : Nat) (h : i < k) : (rowsW W k).getD i [] = rowW W i := by simp [rowsW, List.getD_eq_getElem?_getD, h]
theorem rowsW_snoc (W : List Nat) (k : Nat) : rowsW W k ++ [rowW W k] = rowsW W (k + 1) := by simp [rowsW, List.range_succ]
def RC (w : World) (g : Nat) (W : List Nat) : Prop := ∃ gB cB vW, w.heap[g]? = some (.cells #[.slice (some ⟨gB, 0, none⟩) 256 cB, vW] 222 (0, 0)) ∧ w.heap[gB]? = some (.cells (ivA .u8 sbox) 5 (0, 0)) ∧ OwnM w 0 vW (rowsW W 44)
theorem RC.below {w w' : World} {g : Nat} {W : List Nat} (h : RC w g W) (hb : Below w.heap.size w w') : RC w' g W := by
 obtain ⟨gB, cB, vW, h1, h2, h3⟩ := h
 exact ⟨gB, cB, vW, by rw [hb.block g (Array.getElem?_eq_some_iff.1 h1).1]; exact h1, by rw [hb.block gB (Array.getElem?_eq_some_iff.1 h2).1]; exact h2, h3.below hb (Nat.le_refl _)⟩
end Go.Proofs.YtikmhlbpefednaaGreat
