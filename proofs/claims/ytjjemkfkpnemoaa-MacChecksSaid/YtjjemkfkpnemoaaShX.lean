/- sha's Write. No condition but the sizes'. -/
import Derived.Test.YtjjemkfkpnemoaaShS
namespace Go.Proofs.Ytjjemkfkpnemoaa
open Go.RowKit

theorem hfrom_pre (H a b : List Nat) : ∀ q, 64 * q ≤ a.length → hfrom H (a ++ b) q = hfrom H a q
  | 0, _ => rfl
  | q + 1, h => by
    rw [hfrom, hfrom, hfrom_pre H a b q (by omega)]
    congr 1
    rw [List.drop_append, List.take_append, show 64 - (a.drop (64 * q)).length = 0 by simp; omega]
    simp

/-- A whole array out of a block, in a region that draws. -/
theorem quiet_load_mid {P : Program} {C : World → Prop} {a a1 : Act} {o : Oper} {K : Act → Prop} (T : TypeId) (x : Operand) (ho : o.op = .load T x) (b off : Nat) (hx : a.eval x = .pointer (some ⟨b, off, none⟩)) (cs : Array Value) (d : TypeDesc)
    (hu : P.underlying T = some d) (hd : d.isRow = true) (hi : (P.info? T).map (·.size) = some cs.toList.length) (h : ∀ w, C w → w.rangeAt b off cs.toList) (ha : a.put o.dst (.agg cs) = a1) (hK : K a1) : o.quiet P a C K := by
  refine ⟨.agg cs, fun w hw => ?_, by rw [ha]; exact hK⟩
  unfold Oper.quietAt execOp
  have := run_loadVar_mid w b off T cs.toList d (h w hw) hu hd hi
  simp only [Array.toArray_toList] at this
  simp only [ho, hx, Instr.loadAt, Instr.sureAddr, Sem.run_bind, Sem.run_pure, Result.andThen_ok, this, Oper.quietUpon, and_self]

/-- Bytes that are read do not lie in a State. -/
theorem SB.apart {w w' : World} {v : Value} {n : Nat} {l : List Nat} (h : SB w v n l) {g : Nat} {c : Array Value} {t : TypeId} {fr : Nat × Nat} (hg : w.heap[g]? = some (.cells c t fr)) (hc : ∀ (i : Nat) (x : Int), c[i]? ≠ some (Value.int .u8 x)) (hs : Still [g] w w') : SB w' v n l := by
  obtain ⟨h1, h2, h3, h4, h5 | ⟨b, o, cap, rfl, hn, hcm, hlt, hcell⟩⟩ := h
  · exact ⟨h1, h2, h3, h4, .inl h5⟩
  · by_cases hbg : b = g
    · subst hbg
      have hn0 : n = 0 := by
        rcases Nat.eq_zero_or_pos n with h | h
        · exact h
        · have := hcell 0 (by omega)
          rw [hp_cell hg, bvs_get _ _ (by omega)] at this
          exact absurd this (hc _ _)
      subst hn0
      exact ⟨h1, h2, h3, h4, .inl ⟨rfl, _, cap, rfl, by simp, hcm⟩⟩
    · refine ⟨h1, h2, h3, h4, .inr ⟨b, o, cap, rfl, hn, hcm, Nat.lt_of_lt_of_le hlt hs.size, fun j hj => ?_⟩⟩
      rw [← hcell j hj]
      exact World.cell?_of_block (hs.block b hlt (by simpa using hbg))
theorem stA_nou8 (H : List Nat) (vl : Value) (n : Int) (hv : ∃ sa ln cp, vl = .slice sa ln cp) : ∀ (i : Nat) (x : Int), (stA H vl n)[i]? ≠ some (Value.int .u8 x) := by
  obtain ⟨sa, ln, cp, rfl⟩ := hv
  intro i x
  rcases (show i = 0 ∨ i = 1 ∨ i = 2 ∨ i = 3 ∨ i = 4 ∨ i = 5 ∨ i = 6 ∨ 7 ≤ i by omega) with rfl | rfl | rfl | rfl | rfl | rfl | rfl | hi
  · simp [stA]
  · simp [stA]
  · simp [stA]
  · simp [stA]
  · simp [stA]
  · simp [stA]
  · simp [stA]
  · rw [Array.getElem?_eq_none (by simpa [stA] using hi)]; simp

/-- What memory holds while blocks are taken: q of mb's, N bytes. -/
structure Wr (w0 wx : World) (base g : Nat) (mb : List Nat) (N : Nat) (vl0 vl : Value) (q : Nat) : Prop where
  st : St wx g (hfrom H0 mb q) vl N
  lf : OB wx base 5 vl (N - 64 * q) (mb.drop (64 * q))
  sl : Still (stS g vl0) w0 wx
  gr : ∀ k, vl.ownBlock = some k → vl0.ownBlock = some k ∨ w0.heap.size ≤ k
theorem Wr.still {w0 wx wy : World} {base g : Nat} {mb : List Nat} {N : Nat} {vl0 vl : Value} {q : Nat} (h : Wr w0 wx base g mb N vl0 vl q) (hs : Still [] wx wy) : Wr w0 wy base g mb N vl0 vl q :=
  ⟨h.st.still hs (by simp), h.lf.still hs (by simp), h.sl.trans (hs.weaken (by simp)), h.gr⟩

set_option maxRecDepth 100000 in
set_option maxHeartbeats 8000000 in
theorem write_any (base g : Nat) (m : List Nat) (vl v : Value) (len : Nat) (b : List Nat) (hsz : m.length + len ≤ 1000000000000) (w : World) (hs : StV w base g m vl) (hv : SB w v len b) (hbase : base ≤ w.heap.size) :
    Calls Try.prog 30 #[.pointer (some ⟨g, 0, none⟩), v] w fun e w' => e = .returned (.tuple #[]) ∧ ∃ vl', StV w' base g (m ++ b) vl' ∧ Still (stS g vl) w w' ∧ ∀ k, vl'.ownBlock = some k → vl.ownBlock = some k ∨ w.heap.size ≤ k := by
  obtain ⟨hb, hby, hst, hlf⟩ := hs
  have hml : Hid ((m ++ b).length = m.length + len) := by rw [Hid, List.length_append, hv.1]
  have hmby : Hid (ByL (m ++ b)) := hby.append hv.2.1
  have hq0 : Hid (m.drop (64 * (m.length / 64)) ++ b = (m ++ b).drop (64 * (m.length / 64))) := by
    rw [Hid, List.drop_append, show 64 * (m.length / 64) - m.length = 0 by omega, List.drop_zero]
  have hH0 : Hid (hfrom H0 (m ++ b) (m.length / 64) = hfrom H0 m (m.length / 64)) := hfrom_pre _ _ _ _ (by omega)
  have hdl : Hid ((m.drop (64 * (m.length / 64))).length = m.length % 64) := hlf.1
  have hbl := Lib.hid hv.1
  have hbb := Lib.hid hv.2.1
  generalize hmb : m ++ b = mb at *
  obtain ⟨sa, cap, rfl, hc, hm⟩ := hv.len
  unfold maxLen at hm
  generalize hmm : m.length = ml at *
  have hnv := Lib.hid (hlf.2.2.ne hst (by decide))
  have hg := Lib.hid (hp_lt hst)
  have c6 := hst.size
  have f6 := hst.frz 6
  generalize hHq : hfrom H0 m (ml / 64) = Hq at *
  replace hHq := Lib.hid hHq
  replace hst := Lib.hid hst
  replace hlf := Lib.hid hlf
  replace hv := Lib.hid hv
  replace hby := Lib.hid hby
  go_enter Try.func30, Try.ntmps30
  have c5 := hst.out.left
  have hlf6 : ∀ x, Hid (Ows (w.setCell ⟨g, 6, none⟩ x) base 5 1 vl (ml % 64) (bvs (m.drop (64 * (ml / 64))))) := fun x => hlf.out.2.2.set_other hnv.out x
  have hv6 : ∀ x, Hid (SB (w.setCell ⟨g, 6, none⟩ x) (.slice sa len cap) len b) := fun x => hv.out.apart hst.out (stA_nou8 _ _ _ (by obtain ⟨a1, a2, a3, _⟩ := hlf.out.len; exact ⟨a1, _, a2, a3⟩)) (still_setCell _ _ _ _)
  go_wp2_with (at_builtin; go_must (refine wpList_aps slU8 rfl 37 _ _ rfl base vl (ml % 64) (bvs (m.drop (64 * (ml / 64)))) rfl (hlf6 _).out _ rfl len (bvs b) (OB.sb_app Try.underlying37 (hv6 _).out) (by omega) (by simpa using hbase) ?_; intro v' w' h1 h2 h3; obtain ⟨sa1, cp1, rfl, hc1, hm1⟩ := h1.len; replace h1 := Lib.hid (OB.of_app h1 hdl.out hbl.out (hby.out.drop _) hbb.out); have hs6 := Lib.hid ((hst.out.set6 ((ml : Int) + (len : Int))).still (Still.of_row h2) (hlf.out.2.2.notin hst.out (by decide))); replace h2 := Lib.hid (Still.of_row h2); replace h3 := Lib.hid h3; have f5 := hs6.out.frz 5; have k5 := hs6.out.left))
  have W0 : Hid (Wr w (w'.setCell ⟨g, 5, none⟩ (.slice sa1 (ml % 64 + len) cp1)) base g mb (ml + len) vl (.slice sa1 (ml % 64 + len) cp1) (ml / 64)) := by
    refine ⟨?_, ?_, ?_, ?_⟩
    · rw [hH0.out]
      have := hs6.out.set5 (.slice sa1 (ml % 64 + len) cp1)
      rw [show ((ml + len : Nat) : Int) = (ml : Int) + (len : Int) by push_cast; rfl]
      exact this
    · have hz : ml + len - 64 * (ml / 64) = ml % 64 + len := by omega
      rw [hz, ← hq0.out]
      exact ⟨h1.out.1, h1.out.2.1, h1.out.2.2.set_other (h1.out.2.2.ne (show w'.heap[g]? = some (.cells (stA Hq vl ((ml : Int) + (len : Int))) 92 (0, 0)) from hs6.out) (by decide)) _⟩
    · exact (show Still (stS g vl) _ _ from (still_setCell w g 6 _).weaken (by simp [stS])).trans ((show Still (stS g vl) _ _ from h2.out.weaken (by simp [stS])).trans ((still_setCell w' g 5 _).weaken (by simp [stS])))
    · intro k hk
      rcases h3.out k hk with h | h
      · exact .inl h
      · exact .inr (by simpa using h)
  generalize w'.setCell ⟨g, 5, none⟩ (.slice sa1 (ml % 64 + len) cp1) = w6 at *
  clear h1 h2 h3 hs6 f5 k5 hlf6 hv6 c5 c6 f6 hst hlf hv hq0 hH0
  go_loopg [] ((ml + len) / 64 - ml / 64) (fun m wx => ∃ q vl', m = (ml + len) / 64 - q ∧ ml / 64 ≤ q ∧ 64 * q ≤ ml + len ∧ Hid (Wr w wx base g mb (ml + len) vl vl' q))
  case atStart => exact ⟨ml / 64, _, rfl, Nat.le_refl _, by omega, W0⟩
  case round =>
    clear W0
    obtain ⟨q, vl', rfl, hq1, hq2, W⟩ := hrel
    have c5 := W.out.st.left
    by_cases hge : 64 ≤ ml + len - 64 * q
    · obtain ⟨g2, o2, cap2, rfl, hbg2, hlt2, hn2, hcm2, hcell2, hfz2⟩ := W.out.lf.form (by omega)
      unfold maxLen at hcm2
      have SP := Lib.hid (W.out.lf.sb.piece 0 64 cap2 (by omega) (by omega) (by omega) hcm2)
      rw [List.drop_zero] at SP
      have hnx : Hid (hfrom H0 mb (q + 1) = takeH (hfrom H0 mb q) ((mb.drop (64 * q)).take 64)) := rfl
      have hw5 := Lib.hid (hfrom_w5 H0 mb h0_w5 q)
      have tk := Lib.hid (take_any (hfrom H0 mb q) hw5.out)
      have hn5 : Hid ((takeH (hfrom H0 mb q) ((mb.drop (64 * q)).take 64)).length = 5) := (takeH_w5 _ _).1
      have hsc := Lib.hid W.out.st
      generalize hfrom H0 mb q = Hc at *
      clear hcell2 hfz2
      go_wp2_with fail
      have l5 : ∀ x : LaterS [] wr, x.now.cell? ⟨g, 5, none⟩ = some (.slice (some ⟨g2, o2, none⟩) (ml + len - 64 * q) cap2) := fun x => x.cell c5 (by simp)
      refine wp_region_gg [] [] [11] (by kernel_rfl) ?_
      refine hoist [] [] (a1 := ?_) 0 rfl (by kernel_rfl) (.inl ⟨rfl, rfl⟩) rfl rfl rfl (fun x K hK => ?_) ?_
      rotate_left
      · go_big_quiet_op
        exact hK
      refine hoist [] [] (a1 := ?_) 1 rfl (by kernel_rfl) (.inl ⟨rfl, rfl⟩) rfl rfl rfl (fun x K hK => ?_) ?_
      rotate_left
      · go_big_quiet_op
        exact hK
      refine hoist [] [] (a1 := ?_) 2 rfl (by kernel_rfl) (.inl ⟨rfl, rfl⟩) rfl rfl rfl (fun x K hK => ?_) ?_
      rotate_left
      · go_big_quiet_op
        exact hK
      refine hoist [] [] (a1 := ?_) 3 rfl (by kernel_rfl) (.inl ⟨rfl, rfl⟩) rfl rfl rfl (fun x K hK => ?_) ?_
      rotate_left
      · go_big_quiet_op
        exact hK
      refine hoist [] [] (a1 := ?_) 4 rfl (by kernel_rfl) (.inl ⟨rfl, rfl⟩) rfl rfl rfl (fun x K hK => ?_) ?_
      rotate_left
      · refine quiet_load_mid 89 _ rfl g 0 rfl (ivA .u32 Hc) _ Try.underlying89 rfl (by rw [info5]; simp [ivA, hw5.out.1]) (fun w' hw => by subst hw; exact (hsc.out.still x.ok (by simp)).h hw5.out.1) (by simp only [Act.put, List.setIfInBounds_toArray, List.set_cons_succ, List.set_cons_zero]; rfl) ?_
        exact hK
      refine hoist [] [] (a1 := ?_) 5 rfl (by kernel_rfl) (.inl ⟨rfl, rfl⟩) rfl rfl rfl (fun x K hK => ?_) ?_
      rotate_left
      · go_big_quiet_op
        exact hK
      refine hoist [] [] (a1 := ?_) 6 rfl (by kernel_rfl) (.inl ⟨rfl, rfl⟩) rfl rfl rfl (fun x K hK => ?_) ?_
      rotate_left
      · go_big_quiet_op
        exact hK
      refine hoist [] [] (a1 := ?_) 7 rfl (by kernel_rfl) (.inl ⟨rfl, rfl⟩) rfl rfl rfl (fun x K hK => ?_) ?_
      rotate_left
      · go_big_quiet_op
        exact hK
      refine hoist [] [] (a1 := ?_) 8 rfl (by kernel_rfl) (.inl ⟨rfl, rfl⟩) rfl rfl rfl (fun x K hK => ?_) ?_
      rotate_left
      · go_big_quiet_op
        exact hK
      refine hoist [] [] (a1 := ?_) 9 rfl (by kernel_rfl) (.inl ⟨rfl, rfl⟩) rfl rfl rfl (fun x K hK => ?_) ?_
      rotate_left
      · go_big_quiet_op
        exact hK
      refine effect 10 rfl (by kernel_rfl) (by kernel_rfl) rfl (fun x10 K hK => ?_)
      go_simp
      refine (tk.out _ 64 _ (Nat.le_refl _) _ (SP.out.still x10.ok (by simp))).mono ?_
      rintro e w7 ⟨rfl, hb7⟩
      refine hK _ _ (Still.of_below hb7) ?_
      clear hK K
      have S7 := Lib.hid (x10.ok.trans (Still.of_below hb7))
      refine tail 11 rfl (by kernel_rfl) rfl (fun xr => ?_)
      simp only [List.drop_succ_cons, List.drop_zero]
      have S8 := Lib.hid (S7.out.trans xr.ok)
      have W8 := Lib.hid (W.out.still S8.out)
      have hs8 := Lib.hid (hsc.out.still S8.out (by simp))
      clear l5 S7 S8 W hsc tk SP c5
      generalize xr.now = w8 at *
      clear xr
      generalize takeH Hc ((mb.drop (64 * q)).take 64) = TH at *
      have hs9 := Lib.hid (hs8.out.seth TH hn5.out)
      have c9 := hs9.out.left
      have f9 := hs9.out.frz 5
      have L9 := Lib.hid (still_setCells w8 g 0 (ivA .u32 TH).toList)
      have WN : ∀ o' c', (o' = o2 + 64 ∨ cap2 = 64 ∧ o' = o2) → c' = cap2 - 64 → Hid (Wr w ((w8.setCells g 0 (ivA .u32 TH).toList).setCell ⟨g, 5, none⟩ (.slice (some ⟨g2, o', none⟩) (ml + len - 64 * q - 64) c')) base g mb (ml + len) vl (.slice (some ⟨g2, o', none⟩) (ml + len - 64 * q - 64) c') (q + 1)) := by
        intro o' c' ho hc'
        subst hc'
        have hne := W8.out.lf.2.2.ne (show w8.heap[g]? = some (.cells (stA Hc _ _) 92 (0, 0)) from hs8.out) (by decide)
        have hd := (W8.out.lf.2.2.still L9.out (fun k hk => by simpa using hne k hk)).drop 64 (by omega) o' (by simpa using ho)
        refine ⟨?_, ⟨?_, by have := W8.out.lf.2.1.drop 64; rw [List.drop_drop] at this; exact this, ?_⟩, ?_, ?_⟩
        · rw [hnx.out]; exact hs9.out.set5 _
        · have := W8.out.lf.1
          rw [List.length_drop] at this ⊢
          omega
        · have hs := hd.set_other (p := ⟨g, 5, none⟩) (fun k hk => by cases hk; exact hne _ rfl) (.slice (some ⟨g2, o', none⟩) (ml + len - 64 * q - 64) (cap2 - 64))
          rw [show ml + len - 64 * (q + 1) = ml + len - 64 * q - 64 by omega]
          have e : (bvs (mb.drop (64 * q))).drop (64 * 1) = bvs (mb.drop (64 * (q + 1))) := by
            unfold bvs
            rw [← List.map_drop, List.drop_drop, show 64 * q + 64 * 1 = 64 * (q + 1) by omega]
          rw [← e]
          exact hs
        · exact W8.out.sl.trans ((show Still (stS g vl) _ _ from L9.out.weaken (by simp [stS])).trans ((still_setCell _ g 5 _).weaken (by simp [stS])))
        · exact fun k hk => W8.out.gr k (by cases hk; rfl)
      have ht8 : Hid (w8.there g 0 (ivA .u32 TH).size) := by rw [Hid, ivA_size, hn5.out]; exact hs8.out.there
      go_wp2_with (refine wpList_store_mid rfl 89 _ _ rfl g 0 (ivA .u32 TH) rfl rfl ht8.out (by rw [info5, ivA_size, hn5.out]) (ivA_one _ _) ?_; generalize w8.setCells g 0 (ivA .u32 TH).toList = w9 at *)
      all_goals go_roundg ((ml + len) / 64 - (q + 1))
      case measure => omega
      case measure => omega
      case rel =>
        rename_i hcap
        exact ⟨q + 1, _, rfl, by omega, by omega, WN _ _ (.inr ⟨by omega, rfl⟩) (by omega)⟩
      case rel => exact ⟨q + 1, _, rfl, by omega, by omega, WN _ _ (.inl rfl) rfl⟩
    · obtain ⟨sa2, cp2, rfl, hc2, hm2⟩ := W.out.lf.len
      go_wp2_with fail
      go_end0
      refine ⟨rfl, _, ⟨hb, hmby.out, ?_, ?_⟩, W.out.sl, W.out.gr⟩
      · have := W.out.st
        rw [hml.out, show (ml + len) / 64 = q by omega]
        exact this
      · have := W.out.lf
        rw [hml.out, show (ml + len) / 64 = q by omega, show (ml + len) % 64 = ml + len - 64 * q by omega]
        exact this

set_option maxRecDepth 100000 in
theorem write_nil (v : Value) (w : World) : Calls Try.prog 30 #[.pointer none, v] w fun e w' => e = .returned (.tuple #[]) ∧ Below w.heap.size w w' := by
  go_enter Try.func30, Try.ntmps30
  go_wp2_with fail
  refine bodyPost_ret (results_none rfl _ _ _) rfl ?_
  exact ⟨rfl, Below.refl _ _⟩
set_option maxRecDepth 100000 in
theorem size_nil (w : World) : Calls Try.prog 32 #[.pointer none] w fun e w' => e = .returned (.int .i64 0) ∧ w = w' := by
  go_enter Try.func32, Try.ntmps32
  go_wp2_with fail
  go_ret
  exact ⟨rfl, rfl⟩
set_option maxRecDepth 100000 in
theorem size_any (base g : Nat) (m : List Nat) (vl : Value) (w : World) (hs : StV w base g m vl) : Calls Try.prog 32 #[.pointer (some ⟨g, 0, none⟩)] w fun e w' => e = .returned (.int .i64 m.length) ∧ w = w' := by
  have c6 := hs.st.size
  go_enter Try.func32, Try.ntmps32
  go_wp2_with fail
  go_ret
  exact ⟨rfl, rfl⟩
end Go.Proofs.Ytjjemkfkpnemoaa
