/- The reference's ring: drop. No condition but the sizes'. -/
import Derived.Test.YtgiajnfmjpdodaaRiQ
namespace Go.Proofs.Ytgiajnfmjpdodaa
open Go.RowKit

theorem er_suc {α : Type} (L : List α) (at_ k : Nat) (h : k < L.length) : (L.take (k + 1)).eraseIdx at_ = if k = at_ then (L.take k).eraseIdx at_ else (L.take k).eraseIdx at_ ++ [L[k]] := by
  rw [List.take_succ_eq_append_getElem h]
  have hl : (L.take k).length = k := by rw [List.length_take]; omega
  by_cases h1 : at_ < k
  · rw [if_neg (by omega), List.eraseIdx_append_of_lt_length (by omega)]
  · rw [List.eraseIdx_append_of_length_le (by omega), hl, List.eraseIdx_of_length_le (l := L.take k) (by omega)]
    by_cases e : k = at_
    · subst e; rw [if_pos rfl, Nat.sub_self]; simp
    · rw [if_neg e, List.eraseIdx_of_length_le (by simp; omega)]
theorem EQ.sep {α β : Type} {E : Elt α} {F : Elt β} {T U : TypeId} {w : World} {b1 b2 : Nat} {v u : Value} {n m : Nat} {l : List α} {k : List β} (h : EQ E T w b1 v n l) (g : EQ F U w b2 u m k) (ht : T ≠ U) : ∀ j, v.ownBlock = some j → j ∉ u.ownBlock.toList := fun j hj hm => by
  obtain ⟨cs, hr⟩ := g.row j (by simpa using hm)
  exact h.ne hr ht.symm j hj rfl
theorem map_eraseIdx' {α β : Type} (f : α → β) : ∀ (l : List α) (i : Nat), (l.eraseIdx i).map f = (l.map f).eraseIdx i
  | [], _ => rfl
  | _ :: _, 0 => rfl
  | a :: l, i + 1 => by simp [map_eraseIdx' f l i]
theorem RefV.set2 {w : World} {base g : Nat} {pk by_ : Int} {vi vb : Value} {M : PL} (h : RefV w base g pk by_ vi vb M) (vi' vb' : Value) (M' : PL) (hi : EQ I1 2 w base vi' M'.length (M'.map Prod.fst)) (hb : EQ S1 9 w base vb' M'.length (M'.map Prod.snd)) :
    RefV ((w.setCell ⟨g, 2, none⟩ vi').setCell ⟨g, 3, none⟩ vb') base g pk by_ vi' vb' M' := by
  have h1 := hp_set h.cells 2 vi'
  have s1 := still_setR w g 2 vi'
  have s2 := still_setR (w.setCell ⟨g, 2, none⟩ vi') g 3 vb'
  have ni : ∀ k, vi'.ownBlock = some k → k ∉ [g] := fun k hk => by have := hi.ne h.cells (by decide) k hk; simpa using this
  have nb : ∀ k, vb'.ownBlock = some k → k ∉ [g] := fun k hk => by have := hb.ne h.cells (by decide) k hk; simpa using this
  exact ⟨hp_set h1 3 vb', (hi.still s1 (fun _ _ => trivial) ni).still s2 (fun _ _ => trivial) ni, (hb.still s1 (fun _ _ => trivial) nb).still s2 (fun _ _ => trivial) nb⟩
set_option maxRecDepth 100000 in
set_option maxHeartbeats 8000000 in
theorem rdrp_any (base g : Nat) (pk by_ : Int) (vi vb : Value) (M : PL) (at_ : Nat) (w : World) (h : RefV w base g pk by_ vi vb M) (hl : M.length ≤ 1000000) (hbase : base ≤ w.heap.size) (hat : at_ < M.length) :
    Calls Try.prog 85 #[.pointer (some ⟨g, 0, none⟩), .int .i64 (at_ : Nat)] w fun e w' => e = .returned (.tuple #[]) ∧ (∃ vi' vb', RefV w' base g pk by_ vi' vb' (M.eraseIdx at_) ∧ (∀ k, vi'.ownBlock = some k → w.heap.size ≤ k) ∧ ∀ k, vb'.ownBlock = some k → w.heap.size ≤ k) ∧ Still [g] w w' := by
  obtain ⟨sv, cv, rfl, hnc, hmc⟩ := h.qi.len
  obtain ⟨sb, cb, rfl, hbc, hbm⟩ := h.qb.len
  have hH := Lib.hid h
  unfold maxLen at hmc hbm
  clear h
  have hfi : (M.map Prod.fst).length = M.length := by simp
  have hfb : (M.map Prod.snd).length = M.length := by simp
  have her1 := fun k hk => er_suc (M.map Prod.fst) at_ k hk
  have her2 := fun k hk => er_suc (M.map Prod.snd) at_ k hk
  generalize hn : M.length = n at *
  replace hn := Lib.hid hn
  replace hfi := Lib.hid hfi
  replace hfb := Lib.hid hfb
  replace her1 := Lib.hid her1
  replace her2 := Lib.hid her2
  go_enter Try.func85, Try.ntmps85
  go_upto_region 3 with (fail)
  go_loopg [4, 5, 6] n (fun m' s t i wx => ∃ (k m : Nat) (s4 : Option Addr) (c4 : Nat) (s5 : Option Addr) (c5 : Nat), m' = n - k ∧ k ≤ n ∧ s = .slice s4 m c4 ∧ t = .slice s5 m c5 ∧ c4 ≤ 9223372036854775807 ∧ c5 ≤ 9223372036854775807 ∧ m ≤ k ∧ i = .int .i64 (k : Nat) ∧ Hid (EQ I1 2 wx base (.slice s4 m c4) m (((M.map Prod.fst).take k).eraseIdx at_)) ∧ Hid (EQ S1 9 wx base (.slice s5 m c5) m (((M.map Prod.snd).take k).eraseIdx at_)) ∧ Hid (∀ j, (Value.slice s4 m c4).ownBlock = some j → w.heap.size ≤ j) ∧ Hid (∀ j, (Value.slice s5 m c5).ownBlock = some j → w.heap.size ≤ j) ∧ Hid (BW w wx))
  case atStart => exact ⟨0, 0, none, 0, none, 0, by omega, by omega, rfl, rfl, by omega, by omega, by omega, rfl, EQ.nil _ _ _ _, EQ.nil _ _ _ _, (fun j hj => by cases hj), (fun j hj => by cases hj), BW.refl _⟩
  case round =>
    obtain ⟨k, m, s4, c4, s5, c5, rfl, hk, rfl, rfl, hc4, hc5, hmk, rfl, Q4, Q5, F4, F5, B⟩ := hrel
    have hHr := Lib.hid (hH.out.bw B.out)
    have z2 : wr.cell? ⟨g, 2, none⟩ = some (.slice sv n cv) := hp_cell hHr.out.cells 2
    have z3 : wr.cell? ⟨g, 3, none⟩ = some (.slice sb n cb) := hp_cell hHr.out.cells 3
    by_cases hkn : k < n
    · have d : decide ((k : Int) < (n : Int)) = true := by simp; omega
      have h1 := her1.out k (by rw [hfi.out]; exact hkn)
      have h2 := her2.out k (by rw [hfb.out]; exact hkn)
      by_cases hka : k = at_
      · have d2 : ((k : Int) != (at_ : Int)) = false := by simp; omega
        rw [if_pos hka] at h1 h2
        rw [← h1] at Q4
        rw [← h2] at Q5
        replace h1 := Lib.hid h1
        replace h2 := Lib.hid h2
        replace hka := Lib.hid hka
        go_wp2_with fail
        go_roundg (n - (k + 1))
        case measure => omega
        case rel => exact ⟨k + 1, m, s4, c4, s5, c5, rfl, by omega, rfl, rfl, hc4, hc5, by omega, by push_cast; rfl, Q4, Q5, F4, F5, B⟩
      · have d2 : ((k : Int) != (at_ : Int)) = true := by simp; omega
        rw [if_neg hka] at h1 h2
        obtain ⟨b1, o1, rfl, hc1⟩ := hHr.out.i_form hn.out (by omega)
        have y1 := hc1 k hkn
        obtain ⟨b2, o2, rfl, hc2⟩ := hHr.out.b_form hn.out (by omega)
        have y2 := hc2 k (by rw [hn.out]; exact hkn)
        have e1 : (M.map Prod.fst)[k]'(by rw [hfi.out]; exact hkn) = cl M k := by rw [List.getElem_map, cl_get]
        have e2 : (M.map Prod.snd)[k]'(by rw [hfb.out]; exact hkn) = (M[k]'(by rw [hn.out]; exact hkn)).2 := by rw [List.getElem_map]
        rw [e1] at h1
        rw [e2] at h2
        clear e1 e2 hc1 hc2
        generalize hbx : (M[k]'(by rw [hn.out]; exact hkn)).2 = bx at *
        generalize cl M k = cx at *
        replace hbx := Lib.hid hbx
        have BA : BW wr (wr.alloc (.cells #[.int .i64 cx] 2)) := (BW.refl _).alloc
        have L4 := Lib.hid (Sls.new1 (E := I1) wr 2 [.int .i64 cx] rfl)
        have Q4a := Lib.hid (Q4.out.bw BA)
        have Q5a := Lib.hid (Q5.out.bw BA)
        have Ba := Lib.hid (B.out.trans BA)
        have hza := Nat.le_trans hbase Ba.out.size
        replace h1 := Lib.hid h1
        replace h2 := Lib.hid h2
        replace hka := Lib.hid hka
        replace BA := Lib.hid BA
        clear z3 y2
        go_upto_region 7 with (at_builtin; go_must (refine wpList_apEQ slI64 rfl _ _ rfl base (.slice s4 m c4) m _ rfl Q4a.out _ rfl 1 [cx] [.int .i64 cx] L4.out (EL.single rfl) rfl (by omega) hza (fun _ _ => trivial) ?_; intro s6 c6 w6 hc6 hm6 O6 T6 hb6 G6; unfold maxLen at hm6; replace O6 := Lib.hid O6; replace T6 := Lib.hid T6; replace G6 := Lib.hid G6; clear hb6))
        have F6 : ∀ j, (Value.slice s6 (m + 1) c6).ownBlock = some j → w.heap.size ≤ j := fun j h1 => by
          rcases G6.out j h1 with h2 | h2
          · exact F4.out j h2
          · exact Nat.le_trans Ba.out.size h2
        have B6 := Lib.hid (BW.stP Ba.out T6.out (fun j hj => F4.out j (by simpa using hj)))
        have Q5b := Lib.hid (Q5a.out.still T6.out (fun _ _ => trivial) (Q5a.out.sep Q4a.out (by decide)))
        have hH6 := Lib.hid (hH.out.bw B6.out)
        have z3 : w6.cell? ⟨g, 3, none⟩ = some (.slice (some ⟨b2, o2, none⟩) n cb) := hp_cell hH6.out.cells 3
        obtain ⟨b3, o3, he3, hc2⟩ := hH6.out.b_form hn.out (by omega)
        simp only [Option.some.injEq, Addr.mk.injEq, and_true] at he3
        obtain ⟨rfl, rfl⟩ := he3
        have y2 := hc2 k (by rw [hn.out]; exact hkn)
        rw [hbx.out] at y2
        have BB : BW w6 (w6.alloc (.cells #[.string (bstr bx)] 9)) := (BW.refl _).alloc
        have L5 := Lib.hid (Sls.new1 (E := S1) w6 9 [.string (bstr bx)] rfl)
        have Q5c := Lib.hid (Q5b.out.bw BB)
        have O6c := Lib.hid (O6.out.bw BB)
        have Bc := Lib.hid (B6.out.trans BB)
        have hzc := Nat.le_trans hbase Bc.out.size
        clear hc2 Q5b O6 B6 T6 G6 Q4a Q5a L4 Ba hza y1 z2 hHr hH6
        replace F6 := Lib.hid F6
        replace BB := Lib.hid BB
        go_wp2_with (at_builtin; go_must (refine wpList_apEQ slStr rfl _ _ rfl base (.slice s5 m c5) m _ rfl Q5c.out _ rfl 1 [bx] [.string (bstr bx)] L5.out (EL.single rfl) rfl (by omega) hzc (fun _ _ => trivial) ?_; intro s7 c7 w7 hc7 hm7 O7 T7 hb7 G7; unfold maxLen at hm7; replace O7 := Lib.hid O7; replace T7 := Lib.hid T7; replace G7 := Lib.hid G7; clear hb7))
        have F7 : ∀ j, (Value.slice s7 (m + 1) c7).ownBlock = some j → w.heap.size ≤ j := fun j h1 => by
          rcases G7.out j h1 with h2 | h2
          · exact F5.out j h2
          · exact Nat.le_trans Bc.out.size h2
        have B7 := Lib.hid (BW.stP Bc.out T7.out (fun j hj => F5.out j (by simpa using hj)))
        have O6d := Lib.hid (O6c.out.still T7.out (fun _ _ => trivial) (O6c.out.sep Q5c.out (by decide)))
        have P6 : Hid (EQ I1 2 w7 base (.slice s6 (m + 1) c6) (m + 1) (((M.map Prod.fst).take (k + 1)).eraseIdx at_)) := Lib.hid (by rw [h1.out]; exact O6d.out)
        have P7 : Hid (EQ S1 9 w7 base (.slice s7 (m + 1) c7) (m + 1) (((M.map Prod.snd).take (k + 1)).eraseIdx at_)) := Lib.hid (by rw [h2.out]; exact O7.out)
        clear O6c O7 T7 G7 Q5c L5 Bc hzc y2 z3 O6d d d2
        replace F7 := Lib.hid F7
        go_wp2_with fail
        go_roundg (n - (k + 1))
        case measure => omega
        case rel => exact ⟨k + 1, m + 1, s6, c6, s7, c7, rfl, by omega, rfl, rfl, hm6, hm7, by omega, by push_cast; rfl, P6, P7, F6, F7, B7⟩
    · obtain rfl : k = n := by omega
      have d : decide ((k : Int) < (k : Int)) = false := by simp
      rw [List.take_of_length_le (by rw [hfi.out]; exact Nat.le_refl _), ← map_eraseIdx'] at Q4
      rw [List.take_of_length_le (by rw [hfb.out]; exact Nat.le_refl _), ← map_eraseIdx'] at Q5
      have hle : (M.eraseIdx at_).length = m := by have := Q4.out.1; simpa using this
      have hi2 : EQ I1 2 wr base (.slice s4 m c4) (M.eraseIdx at_).length ((M.eraseIdx at_).map Prod.fst) := by rw [hle]; exact Q4.out
      have hb2 : EQ S1 9 wr base (.slice s5 m c5) (M.eraseIdx at_).length ((M.eraseIdx at_).map Prod.snd) := by rw [hle]; exact Q5.out
      have R2 := Lib.hid (hHr.out.set2 (.slice s4 m c4) (.slice s5 m c5) _ hi2 hb2)
      have y2 := hp_frz hHr.out.cells 2
      have y3 := hp_frz (hp_set hHr.out.cells 2 (.slice s4 m c4)) 3
      have T2 := Lib.hid (((B.out.still [g]).trans (still_setR wr g 2 (.slice s4 m c4))).trans (still_setR _ g 3 (.slice s5 m c5)))
      replace hle := Lib.hid hle
      replace hi2 := Lib.hid hi2
      replace hb2 := Lib.hid hb2
      go_wp2_with fail
      go_end0
      exact ⟨rfl, ⟨_, _, R2.out, F4.out, F5.out⟩, T2.out⟩
end Go.Proofs.Ytgiajnfmjpdodaa
