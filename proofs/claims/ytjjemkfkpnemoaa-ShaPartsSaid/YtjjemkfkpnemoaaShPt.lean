/- The law ShaParts. No condition. -/
import Derived.Test.YtjjemkfkpnemoaaRfC
import Derived.Test.YtjjemkfkpnemoaaShL
import Derived.Test.YtjjemkfkpnemoaaAin
namespace Go.Proofs.Ytjjemkfkpnemoaa
open Go.RowKit

/-- What came in as a slice of slices of bytes. -/
theorem SM_of_Rd {w : World} {sa : Option Addr} {ln cp : Nat} (h : Rd w (.loop (.loop (.label 4))) [.slice sa ln cp]) : ∃ rows, SM w (.slice sa ln cp) ln rows := by
  obtain ⟨h1, h2, h3⟩ := Rd.slice_at h (by decide)
  rcases h3 with ⟨rfl, rfl, rfl⟩ | ⟨rfl, rfl, x, rfl⟩ | ⟨b, o, rfl, hb, hc, hcell⟩
  · exact ⟨[], rfl, [], ⟨rfl, by decide, .inl ⟨rfl, none, 0, rfl, fun _ => rfl, by decide⟩⟩, fun i x h => by simp at h⟩
  · exact ⟨[], rfl, [], ⟨rfl, by decide, .inl ⟨rfl, some x, 0, rfl, fun h => by simp at h, by decide⟩⟩, fun i x h => by simp at h⟩
  · have key : ∀ i : Nat, ∃ p : Value × List Nat, i < ln → w.cell? ⟨b, o + i, none⟩ = some p.1 ∧ ∃ n, SB w p.1 n p.2 := by
      intro i
      by_cases hi : i < ln
      · obtain ⟨cs, hl, hr, hx⟩ := hcell i (by omega)
        have e0 := hx 0 (by decide)
        have e1 : w.cell? ⟨b, o + i, none⟩ = cs[0]? := by simpa [tsize] using e0
        rcases hr with rfl | ⟨a, l, c, rfl, hr⟩
        · exact ⟨(.slice none 0 0, []), fun _ => ⟨e1, 0, (OB.nil w 0 5).sb⟩⟩
        · obtain ⟨m, hm⟩ := SB_of_Rd (w := w) (sa := some a) (ln := l) (cp := c) (.inr ⟨a, l, c, rfl, hr⟩)
          exact ⟨(.slice (some a) l c, m), fun _ => ⟨e1, l, hm⟩⟩
      · exact ⟨(undef, []), fun h => absurd h hi⟩
    obtain ⟨f, hf⟩ := Classical.axiomOfChoice key
    refine ⟨(List.range ln).map fun i => (f i).2, by simp, (List.range ln).map fun i => (f i).1, ⟨by simp, Nat.le_trans h1 h2, .inr ⟨b, o, cp, rfl, h1, h2, hb, fun j hj => ?_⟩⟩, fun i x hx => ?_⟩
    · have hj' : j < ln := by omega
      rw [(hf j hj').1]
      simp [hj']
    · have hi : i < ln := by
        rcases Nat.lt_or_ge i ln with h | h
        · exact h
        · rw [List.getElem?_eq_none (by simpa using h)] at hx; cases hx
      simp [hi] at hx
      subst hx
      obtain ⟨n, hn⟩ := (hf i hi).2
      refine ⟨n, ?_⟩
      simpa [List.getD_eq_getElem?_getD, hi] using hn

set_option maxRecDepth 100000 in
set_option maxHeartbeats 8000000 in
theorem law_parts (sa : Option Addr) (n cp : Nat) (w : World) (h : Rd w (.loop (.loop (.label 4))) [.slice sa n cp]) :
    Calls Try.prog 7 #[.slice sa n cp] w fun e w' => e = .returned (.bool true) ∧ Below w.heap.size w w' := by
  obtain ⟨rows, hv⟩ := SM_of_Rd h
  replace hv := Lib.hid hv
  clear h
  have hrl := Lib.hid hv.out.1
  have hcp : n ≤ cp ∧ cp ≤ 2 ^ 63 - 1 := by
    obtain ⟨sa', cap, he, h1, h2⟩ := hv.out.len
    cases he
    unfold maxLen at h2
    exact ⟨h1, h2⟩
  go_enter Try.func7, Try.ntmps7
  go_wp2_with fail
  refine (shaalive_any w).mono ?_
  rintro e w1 ⟨rfl, hb1⟩
  replace hb1 := Lib.hid hb1
  dsimp only
  by_cases h20 : 20 < n
  · have h3 : (20 : Int) < n := by omega
    go_wp2_with fail
    go_ret
    exact ⟨rfl, hb1.out⟩
  · have h3 : ¬ (20 : Int) < n := by omega
    go_wp2_with fail
    refine (shanew_any _).mono ?_
    rintro e w2 ⟨g, rfl, hS, hb⟩
    have S1 := Lib.hid (hS.up (base' := w.heap.size) hb1.out.size)
    have B1 := Lib.hid (hb1.out.trans (hb.mono hb1.out.size))
    clear hb hb1 hS
    dsimp only
    go_wp2_with fail
    go_loopg [4, 5] n (fun m' mv i wx => ∃ (j : Nat) (vl : Value) (s : Option Addr) (L c : Nat), m' = n - j ∧ j ≤ n ∧ i = .int .i64 (j : Nat) ∧ mv = .slice s L c ∧ L ≤ 300 * j ∧ Hid (StV wx w.heap.size g (rows.take j).flatten vl) ∧ Hid (OB wx w.heap.size 5 mv L (rows.take j).flatten) ∧ Hid (∀ k, mv.ownBlock = some k → vl.ownBlock = some k → False) ∧ Hid (Below w.heap.size w wx))
    case atStart => exact ⟨0, _, none, 0, 0, by omega, by omega, rfl, rfl, by omega, S1, OB.nil _ _ _, (by unfold Hid; intro k h; cases h), B1⟩
    case round =>
      clear S1 B1
      obtain ⟨j, vl, s, L, c, rfl, hj, rfl, rfl, hL, S2, O2, X2, B2⟩ := hrel
      by_cases hjn : j < n
      · obtain ⟨b, o, cap, he, _, _, hbw, hcell⟩ := hv.out.form (by omega)
        cases he
        obtain ⟨s0, ln, c0, hc, hSB⟩ := hcell j hjn
        have hc1 := B2.out.cell (p := ⟨b, o + j, none⟩) hbw
        rw [hc] at hc1
        have hjw : (j : Int) < n := by omega
        by_cases h300 : 300 < ln
        · have h4 : (300 : Int) < ln := by omega
          clear hcell
          go_wp2_with fail
          go_ret
          exact ⟨rfl, B2.out⟩
        · have h4 : ¬ (300 : Int) < ln := by omega
          have hst := Lib.hid (flat_step rows j (by rw [hrl.out]; exact hjn))
          have hLl := Lib.hid O2.out.1
          have V2 := Lib.hid (hSB.below B2.out (Nat.le_refl _))
          have wrt := Lib.hid (write_any w.heap.size g (rows.take j).flatten vl (.slice s0 ln c0) ln (rows.getD j []) (by rw [hLl.out]; omega) wr S2.out V2.out B2.out.size)
          have hge := Lib.hid S2.out.ge
          have hni : Hid (∀ k, (Value.slice s L c).ownBlock = some k → k ∉ stS g vl) := fun k hk hm => by
            rcases List.mem_cons.1 hm with h | h
            · exact O2.out.2.2.ne (show wr.heap[g]? = some (.cells (stA _ _ _) 92 (0, 0)) from S2.out.st) (by decide) k hk h
            · exact X2.out k hk (in_toList h)
          have hlt2 := Lib.hid O2.out.2.2.lt
          clear hcell
          go_wp2_with fail
          refine wrt.out.mono ?_
          rintro e w3 ⟨rfl, vl', S3, T3, G3⟩
          rw [← hst.out] at S3
          have O3 := Lib.hid (O2.out.still T3 hni.out)
          have X3 : Hid (∀ k, (Value.slice s L c).ownBlock = some k → vl'.ownBlock = some k → False) := fun k hk hk' => by
            rcases G3 k hk' with h | h
            · exact X2.out k hk h
            · have := (hlt2.out k hk).2; omega
          have B3 := Lib.hid (B2.out.trans (T3.below B2.out.size hge.out))
          have V3 := Lib.hid (hSB.below B3.out (Nat.le_refl _))
          have hlv := Lib.hid S3.lf.2.2.lt
          replace S3 := Lib.hid S3
          have hc3 := B3.out.cell (p := ⟨b, o + j, none⟩) hbw
          rw [hc] at hc3
          clear T3 G3 X2 B2 S2 O2 V2 wrt hge hni hlt2 hc1
          have hz3 := B3.out.size
          dsimp only
          go_upto_region 14 with (at_builtin; go_must (refine wpList_apOB rfl _ _ rfl w.heap.size _ L _ rfl O3.out _ rfl ln _ V3.out (by omega) hz3 ?_; intro s4 c4 w4 hc4 hm4 O4 T4 B4 G4; rw [← hst.out] at O4; have S4 := Lib.hid (S3.out.still T4 (O3.out.2.2.notin S3.out.st (by decide)) (fun k hk hm => X3.out k (in_toList hm) hk)); have X4 : Hid (∀ k, (Value.slice s4 (L + ln) c4).ownBlock = some k → vl'.ownBlock = some k → False) := (fun k hk hk' => (G4 k hk).elim (fun h => X3.out k h hk') (fun h => by have := (hlv.out k hk').2; omega)); replace O4 := Lib.hid O4; replace B4 := Lib.hid (B3.out.trans B4); clear T4 G4))
          clear S3 O3 X3 B3 V3 hlv hc3
          have hLn : L + ln ≤ 300 * (j + 1) := by omega
          have hfl := Lib.hid O4.out.1
          generalize hfj : (rows.take (j + 1)).flatten = F at *
          replace hfj := Lib.hid hfj
          have lm := Lib.hid (sum_len F)
          have d4 := Lib.hid (done_any w.heap.size g F vl' (by rw [hfl.out]; omega) w4 S4.out)
          have r4 := fun w1 hv => Lib.hid (rsum_any (.slice s4 (L + ln) c4) (L + ln) F (by omega) w1 hv)
          have z4 := fun w1 hs => Lib.hid (size_any w.heap.size g F vl' w1 hs)
          rw [hfl.out] at z4
          generalize sumN F = D at *
          have eD : ∀ w, (Op.equalIn 10000 42 (.agg (ivA .u8 D)) (.agg (ivA .u8 D))).run Try.prog w = .ok true w := fun w => by rw [eq20 D D lm.out lm.out]; simp
          clear lm
          go_wp2_with fail
          refine d4.out.mono ?_
          rintro e w5 ⟨rfl, hb⟩
          have S5 := Lib.hid (S4.out.below hb (Nat.le_refl _))
          have O5 := Lib.hid (O4.out.below hb (Nat.le_refl _))
          have B5 := Lib.hid (B4.out.trans (hb.mono B4.out.size))
          clear hb S4 O4 B4 d4
          dsimp only
          go_wp2_with fail
          refine (r4 _ O5.out.sb).out.mono ?_
          rintro e w6 ⟨rfl, hb⟩
          have S6 := Lib.hid (S5.out.below hb (Nat.le_refl _))
          have O6 := Lib.hid (O5.out.below hb (Nat.le_refl _))
          have B6 := Lib.hid (B5.out.trans (hb.mono B5.out.size))
          clear hb S5 O5 B5 r4
          dsimp only
          go_wp2_with fail
          refine (z4 _ S6.out).out.mono ?_
          rintro e w7 ⟨rfl, rfl⟩
          dsimp only
          go_wp2_with fail
          go_roundg (n - (j + 1))
          case measure => omega
          case rel => exact ⟨j + 1, vl', _, _, _, rfl, by omega, by go_num, rfl, hLn, by rw [hfj.out]; exact S6, by rw [hfj.out]; exact O6, X4, B6⟩
      · obtain rfl : j = n := by omega
        have hall : rows.take j = rows := List.take_of_length_le (by rw [hrl.out]; exact Nat.le_refl _)
        rw [hall] at S2 O2
        have hfl := Lib.hid O2.out.1
        have lm := Lib.hid (sum_len rows.flatten)
        have d4 := Lib.hid (done_any w.heap.size g rows.flatten vl (by rw [hfl.out]; omega) wr S2.out)
        have r4 := fun w1 hv => Lib.hid (shasum_any (.slice sa j cp) j rows (by rw [hfl.out]; omega) w1 hv)
        generalize sumN rows.flatten = D at *
        have eD : ∀ w, (Op.equalIn 10000 42 (.agg (ivA .u8 D)) (.agg (ivA .u8 D))).run Try.prog w = .ok true w := fun w => by rw [eq20 D D lm.out lm.out]; simp
        clear lm hall
        go_wp2_with fail
        refine d4.out.mono ?_
        rintro e w5 ⟨rfl, hb⟩
        have B5 := Lib.hid (B2.out.trans (hb.mono B2.out.size))
        clear hb B2 d4
        dsimp only
        go_wp2_with fail
        refine (r4 _ (hv.out.below B5.out (Nat.le_refl _))).out.mono ?_
        rintro e w6 ⟨rfl, hb⟩
        have B6 := Lib.hid (B5.out.trans (hb.mono B5.out.size))
        clear hb B5 r4
        dsimp only
        go_wp2_with fail
        go_ret
        exact ⟨rfl, B6.out⟩
end Go.Proofs.Ytjjemkfkpnemoaa
