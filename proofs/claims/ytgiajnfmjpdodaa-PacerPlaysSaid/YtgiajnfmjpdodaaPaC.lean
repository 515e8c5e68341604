/- pacer: Len, Size, Gone; a class's queue turned; drop; room. No condition but the sizes'. -/
import Derived.Test.YtgiajnfmjpdodaaPaB
namespace Go.Proofs.Ytgiajnfmjpdodaa
open Go.RowKit

theorem getD_set {α : Type} (l : List α) (c d : Nat) (v u : α) (hc : c < l.length) : (l.set c v).getD d u = if d = c then v else l.getD d u := by
  rw [List.getD_eq_getElem?_getD, List.getD_eq_getElem?_getD, List.getElem?_set]
  by_cases h : d = c
  · subst h; simp [hc]
  · have h' : ¬ c = d := fun e => h e.symm
    simp [h, h']
theorem own_len (sa : Option Addr) (n c n' c' : Nat) : (Value.slice sa n c).ownBlock = (Value.slice sa n' c').ownBlock := by cases sa <;> rfl
theorem still_setCP (w : World) (g o : Nat) (v : Value) : Still [g] w (w.setCell ⟨g, o, none⟩ v) := by
  refine ⟨rfl, rfl, rfl, by simp [World.setCell], fun k _ hk => ?_⟩
  exact hp_oth (by simpa using hk)
theorem PacV.noB {w : World} {base g gb : Nat} {vs : List Value} {S : PcS} (h : PacV w base g gb vs S) : ∀ k ∈ [g], NoB w k := fun k hk => by
  obtain rfl : k = g := by simpa using hk
  exact .inr ⟨_, _, _, h.cells, by decide⟩
theorem PacV.setq {w : World} {base g gb : Nat} {vs : List Value} {S : PcS} (h : PacV w base g gb vs S) (c : Nat) (hc : c < 4) (v : Value) (q : List (List Nat)) (hq : PQ w base v q.length (q.map fun b => ((c : Int), b))) (ha : ∀ d, d < 4 → d ≠ c → Apt v (vs.getD d undef)) :
    PacV (w.setCell ⟨g, 4 + c, none⟩ v) base g gb (vs.set c v) { S with qs := S.qs.set c q } := by
  have hs := still_setCP w g (4 + c) v
  refine ⟨?_, ?_, by rw [List.length_set]; exact h.vl, by show (S.qs.set c q).length = 4; rw [List.length_set]; exact h.ql, fun d hd => ?_, fun d e hd he hde => ?_⟩
  · have := hp_set h.cells (4 + c) v
    rw [pacC_set _ _ _ _ _ _ _ _ h.vl hc] at this
    exact this
  · exact (hp_oth (hp_ne h.bk h.cells (by decide))).trans h.bk
  · show PQ _ _ ((vs.set c v).getD d undef) ((S.qs.set c q).getD d []).length (((S.qs.set c q).getD d []).map _)
    rw [getD_set _ _ _ _ _ (by rw [h.vl]; exact hc), getD_set _ _ _ _ _ (by rw [h.ql]; exact hc)]
    by_cases e : d = c
    · subst e
      rw [if_pos rfl, if_pos rfl]
      exact hq.still hs h.noB (fun k hk => by have := hq.ne h.cells (by decide) k hk; simpa using this)
    · rw [if_neg e, if_neg e]
      exact (h.pq d hd).still hs h.noB (fun k hk => by have := (h.pq d hd).ne h.cells (by decide) k hk; simpa using this)
  · rw [getD_set _ _ _ _ _ (by rw [h.vl]; exact hc), getD_set _ _ _ _ _ (by rw [h.vl]; exact hc)]
    by_cases e1 : d = c
    · rw [if_pos e1, if_neg (fun e2 => hde (e1.trans e2.symm))]
      exact ha e he (fun e2 => hde (e1.trans e2.symm))
    · rw [if_neg e1]
      by_cases e2 : e = c
      · rw [if_pos e2]; exact (ha d hd e1).symm
      · rw [if_neg e2]; exact h.apt d e hd he hde
theorem PacV.setg {w : World} {base g gb : Nat} {vs : List Value} {S : PcS} (h : PacV w base g gb vs S) (n : Nat) : PacV (w.setCell ⟨g, 8, none⟩ (.int .i64 (n : Nat))) base g gb vs { S with gone := n } := by
  have hs := still_setCP w g 8 (.int .i64 (n : Nat))
  refine ⟨?_, ?_, h.vl, h.ql, fun d hd => ?_, h.apt⟩
  · have := hp_set h.cells 8 (.int .i64 (n : Nat))
    rw [pacC_setg _ _ _ _ _ _ _ h.vl] at this
    exact this
  · exact (hp_oth (hp_ne h.bk h.cells (by decide))).trans h.bk
  · exact (h.pq d hd).still hs h.noB (fun k hk => by have := (h.pq d hd).ne h.cells (by decide) k hk; simpa using this)
theorem PacV.still {w w' : World} {base g gb : Nat} {vs : List Value} {S : PcS} (h : PacV w base g gb vs S) {T : List Nat} (hs : Still T w w') (hT : ∀ k ∈ T, NoB w k) (hg : g ∉ T) (hgb : gb ∉ T) (hv : ∀ c, c < 4 → ∀ k, (vs.getD c undef).ownBlock = some k → k ∉ T) : PacV w' base g gb vs S :=
  ⟨hp_st hs h.cells hg, hp_st hs h.bk hgb, h.vl, h.ql, fun c hc => (h.pq c hc).still hs hT (hv c hc), h.apt⟩

set_option maxRecDepth 100000 in
set_option maxHeartbeats 8000000 in
theorem len_any (base g gb : Nat) (vs : List Value) (S : PcS) (w : World) (h : PacV w base g gb vs S) (hm : mny S.qs ≤ 1000000) (hs : siz S.qs ≤ 1000000000) :
    Calls Try.prog 28 #[.pointer (some ⟨g, 0, none⟩)] w fun e w' => e = .returned (.int .i64 (mny S.qs : Nat)) ∧ BW w w' := by
  have c := Lib.hid (counted_any base g gb 0 vs S w (by omega) h hm hs)
  rw [List.drop_zero] at c
  clear h
  generalize mny S.qs = M at *
  generalize siz S.qs = Z at *
  go_enter Try.func28, Try.ntmps28
  go_wp2_with fail
  refine Calls.mono c.out ?_
  rintro e w1 ⟨rfl, hb⟩
  dsimp only
  go_wp2_with fail
  go_ret
  exact ⟨rfl, hb⟩
set_option maxRecDepth 100000 in
set_option maxHeartbeats 8000000 in
theorem size_any (base g gb : Nat) (vs : List Value) (S : PcS) (w : World) (h : PacV w base g gb vs S) (hm : mny S.qs ≤ 1000000) (hs : siz S.qs ≤ 1000000000) :
    Calls Try.prog 29 #[.pointer (some ⟨g, 0, none⟩)] w fun e w' => e = .returned (.int .i64 (siz S.qs : Nat)) ∧ BW w w' := by
  have c := Lib.hid (counted_any base g gb 0 vs S w (by omega) h hm hs)
  rw [List.drop_zero] at c
  clear h
  generalize mny S.qs = M at *
  generalize siz S.qs = Z at *
  go_enter Try.func29, Try.ntmps29
  go_wp2_with fail
  refine Calls.mono c.out ?_
  rintro e w1 ⟨rfl, hb⟩
  dsimp only
  go_wp2_with fail
  go_ret
  exact ⟨rfl, hb⟩
set_option maxRecDepth 100000 in
set_option maxHeartbeats 8000000 in
theorem gone_any (base g gb : Nat) (vs : List Value) (S : PcS) (w : World) (h : PacV w base g gb vs S) :
    Calls Try.prog 30 #[.pointer (some ⟨g, 0, none⟩)] w fun e w' => e = .returned (.int .i64 (S.gone : Nat)) ∧ w = w' := by
  have z := hp_cell h.cells 8
  rw [pacC_g _ _ _ _ _ _ h.vl] at z
  clear h
  generalize S.gone = G at *
  go_enter Try.func30, Try.ntmps30
  go_wp2_with fail
  go_ret
  exact ⟨rfl, rfl⟩
/-- The packet that goes is the newest one of class c, the greatest one that has any. -/
def dropS (S : PcS) (c : Nat) : PcS := { S with qs := S.qs.set c ((S.qs.getD c []).take ((S.qs.getD c []).length - 1)), gone := S.gone + 1 }
set_option maxRecDepth 100000 in
set_option maxHeartbeats 8000000 in
theorem drop_any (base g gb c : Nat) (vs : List Value) (S : PcS) (w : World) (h : PacV w base g gb vs S) (hc : c < 4) (hn : 0 < (S.qs.getD c []).length) (hup : ∀ d, c < d → d < 4 → (S.qs.getD d []).length = 0) (hgo : S.gone ≤ 1000000) :
    Calls Try.prog 59 #[.pointer (some ⟨g, 0, none⟩)] w fun e w' => e = .returned (.tuple #[]) ∧ (∃ v, PacV w' base g gb (vs.set c v) (dropS S c) ∧ ∀ k, v.ownBlock = some k → (vs.getD c undef).ownBlock = some k) ∧ Still [g] w w' := by
  have hH := Lib.hid h
  replace hup := Lib.hid hup
  clear h
  go_enter Try.func59, Try.ntmps59
  go_upto_region 1 with (fail)
  go_loopg [2] (3 - c) (fun m' i wx => ∃ k : Nat, m' = k - c ∧ c ≤ k ∧ k < 4 ∧ i = .int .i64 (k : Nat) ∧ wx = w)
  case atStart => exact ⟨3, rfl, by omega, by omega, rfl, rfl⟩
  case round =>
    obtain ⟨k, rfl, hck, hk4, rfl, rfl⟩ := hrel
    have hp := hH.out.pq k hk4
    have zk := hH.out.cell k hk4
    obtain ⟨sv, cv, hv, hnv, hmv⟩ := hp.len
    rw [hv] at zk
    unfold maxLen at hmv
    replace hp := Lib.hid hp
    by_cases hkc : c < k
    · have h0 := hup.out k hkc hk4
      rw [h0] at zk
      replace h0 := Lib.hid h0
      replace hv := Lib.hid hv
      go_wp2_with fail
      go_roundg (k - 1 - c)
      case measure => omega
      case rel => exact ⟨k - 1, rfl, by omega, by omega, by congr 1; omega, rfl⟩
    · obtain rfl : k = c := by omega
      obtain ⟨wq, rfl⟩ : ∃ x, x = wr := ⟨_, rfl⟩
      obtain ⟨m, hm⟩ : ∃ m, (S.qs.getD k []).length = m + 1 := ⟨(S.qs.getD k []).length - 1, by omega⟩
      rw [hm] at zk hnv
      have hpm := hp.out
      rw [hv, hm] at hpm
      have hcut := hpm.cutN m (by omega)
      have hqq : (qAt S k).take m = ((S.qs.getD k []).take ((S.qs.getD k []).length - 1)).map fun b => ((k : Int), b) := by
        rw [hm, Nat.add_sub_cancel, List.map_take]; rfl
      rw [hqq] at hcut
      have hlen : ((S.qs.getD k []).take ((S.qs.getD k []).length - 1)).length = m := by rw [List.length_take, hm]; omega
      have hapt : ∀ d, d < 4 → d ≠ k → Apt (.slice sv m m) (vs.getD d undef) := fun d hd hdk j h1 h2 => hH.out.apt k d hk4 hd (fun e => hdk e.symm) j (by rw [hv, ← own_len sv m m]; exact h1) h2
      replace hv := Lib.hid hv
      replace hm := Lib.hid hm
      replace hpm := Lib.hid hpm
      replace hcut := Lib.hid hcut
      replace hqq := Lib.hid hqq
      replace hlen := Lib.hid hlen
      replace hapt := Lib.hid hapt
      replace hp := Lib.hid hp
      go_upto_region 5 with (fail)
      have l0 := fun x : LaterS [] wq => x.cell zk (by simp)
      have hc5 := fun w => run_cut_hm (P := Try.prog) Try.underlying44 info_pc sv (m + 1) cv m m (m : Int) (m : Int) rfl rfl .i64 .i64 (by omega) (by omega) w
      have f0 := fun i => hp_frz hH.out.cells i
      have hmi : (m : Int) ≤ 9223372036854775806 := by omega
      refine wp_region_gg [] [] [16] (by kernel_rfl) ?_
      refine hoist [] [] (a1 := ?_) 0 rfl (by kernel_rfl) (.inl ⟨rfl, rfl⟩) rfl rfl rfl (fun x K hK => ?_) ?_
      rotate_left
      · go_big_quiet_op
        exact hK
      refine hoist [] [] (a1 := ?_) 1 rfl (by kernel_rfl) (.inl ⟨rfl, rfl⟩) rfl rfl rfl (fun x K hK => ?_) ?_
      rotate_left
      · go_big_quiet_op
        exact hK
      refine hoist [] [] (a1 := ?_) 2 rfl (by kernel_rfl) (.inl ⟨rfl, rfl⟩) rfl rfl rfl (fun x K hK => ?_) ?_
      rotate_left
      · go_big_quiet_op
        exact hK
      refine hoist [] [] (a1 := ?_) 3 rfl (by kernel_rfl) (.inl ⟨rfl, rfl⟩) rfl rfl rfl (fun x K hK => ?_) ?_
      rotate_left
      · go_big_quiet_op
        exact hK
      refine hoist [] [] (a1 := ?_) 4 rfl (by kernel_rfl) (.inl ⟨rfl, rfl⟩) rfl rfl rfl (fun x K hK => ?_) ?_
      rotate_left
      · go_big_quiet_op
        exact hK
      refine hoist [] [] (a1 := ?_) 5 rfl (by kernel_rfl) (.inl ⟨rfl, rfl⟩) rfl rfl rfl (fun x K hK => ?_) ?_
      rotate_left
      · go_big_quiet_op
        exact hK
      refine hoist [] [] (a1 := ?_) 6 rfl (by kernel_rfl) (.inl ⟨rfl, rfl⟩) rfl rfl rfl (fun x K hK => ?_) ?_
      rotate_left
      · go_big_quiet_op
        exact hK
      refine hoist [] [] (a1 := ?_) 7 rfl (by kernel_rfl) (.inl ⟨rfl, rfl⟩) rfl rfl rfl (fun x K hK => ?_) ?_
      rotate_left
      · go_big_quiet_op
        exact hK
      refine hoist [] [] (a1 := ?_) 8 rfl (by kernel_rfl) (.inl ⟨rfl, rfl⟩) rfl rfl rfl (fun x K hK => ?_) ?_
      rotate_left
      · go_big_quiet_op
        exact hK
      refine hoist [] [] (a1 := ?_) 9 rfl (by kernel_rfl) (.inl ⟨rfl, rfl⟩) rfl rfl rfl (fun x K hK => ?_) ?_
      rotate_left
      · go_big_quiet_op
        exact hK
      refine hoist [] [] (a1 := ?_) 10 rfl (by kernel_rfl) (.inl ⟨rfl, rfl⟩) rfl rfl rfl (fun x K hK => ?_) ?_
      rotate_left
      · go_big_quiet_op
        exact hK
      refine hoist [] [] (a1 := ?_) 11 rfl (by kernel_rfl) (.inl ⟨rfl, rfl⟩) rfl rfl rfl (fun x K hK => ?_) ?_
      rotate_left
      · go_big_quiet_op
        exact hK
      refine hoist [] [] (a1 := ?_) 12 rfl (by kernel_rfl) (.inl ⟨rfl, rfl⟩) rfl rfl rfl (fun x K hK => ?_) ?_
      rotate_left
      · go_big_quiet_op
        exact hK
      refine hoist [] [] (a1 := ?_) 13 rfl (by kernel_rfl) (.inl ⟨rfl, rfl⟩) rfl rfl rfl (fun x K hK => ?_) ?_
      rotate_left
      · go_big_quiet_op
        exact hK
      refine hoist [] [] (a1 := ?_) 14 rfl (by kernel_rfl) (.inl ⟨rfl, rfl⟩) rfl rfl rfl (fun x K hK => ?_) ?_
      rotate_left
      · go_big_quiet_op
        exact hK
      refine hoist [] [] (a1 := ?_) 15 rfl (by kernel_rfl) (.inl ⟨rfl, rfl⟩) rfl rfl rfl (fun x K hK => ?_) ?_
      rotate_left
      · go_big_quiet_op
        exact hK
      refine tail 16 rfl (by kernel_rfl) rfl (fun xr => ?_)
      simp only [List.drop_succ_cons, List.drop_zero]
      have H2 := hH.out.bw xr.bw
      have f1 := hp_frz H2.cells (4 + k)
      have zk2 := xr.bw.cell zk
      have f8 := hp_frz H2.cells 8
      have z8 := hp_cell H2.cells 8
      rw [pacC_g _ _ _ _ _ _ H2.vl] at z8
      have hq2 := (hcut.out.bw xr.bw)
      rw [← hlen.out] at hq2
      have H3 := H2.setq k hk4 (.slice sv m m) _ (by rw [hlen.out] at hq2 ⊢; exact hq2) hapt.out
      have H4 := H3.setg (S.gone + 1)
      have T4 := ((xr.bw.still [g]).trans (still_setCP xr.now g (4 + k) (.slice sv m m))).trans (still_setCP _ g 8 (.int .i64 ((S.gone + 1 : Nat) : Int)))
      have hne8 : ¬ 4 + k = 8 := by omega
      replace H2 := Lib.hid H2
      replace H3 := Lib.hid H3
      replace H4 := Lib.hid H4
      replace T4 := Lib.hid T4
      replace hq2 := Lib.hid hq2
      clear l0 hc5 f0
      go_wp2_with fail
      refine bodyPost_ret (results_none rfl _ _ _) rfl ?_
      have hown : ∀ j, (Value.slice sv m m).ownBlock = some j → (vs.getD k undef).ownBlock = some j := fun j hj => by rw [hv.out, ← own_len sv m m]; exact hj
      exact ⟨rfl, ⟨_, H4.out, hown⟩, T4.out⟩
end Go.Proofs.Ytgiajnfmjpdodaa
