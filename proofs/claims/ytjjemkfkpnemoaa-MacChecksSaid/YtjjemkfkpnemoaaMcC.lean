/- slices.Grow of nothing, slices.Concat of bytes. No condition but the sizes'. -/
import Derived.Test.YtjjemkfkpnemoaaMcA
namespace Go.Proofs.Ytjjemkfkpnemoaa
open Go.RowKit

theorem OB.cut0 {w : World} {base : Nat} {E : TypeId} {g o n cap : Nat} {l : List Nat} (h : OB w base E (.slice (some ⟨g, o, none⟩) n cap) n l) : OB w base E (.slice (some ⟨g, o, none⟩) 0 cap) 0 [] := by
  obtain ⟨_, _, h1, ⟨h2, _⟩ | ⟨g', o1, cap', cur, he, hg, hh, hn, hc, hs, ht⟩⟩ := h
  · cases h2
  · cases he
    exact ⟨rfl, by simp [ByL], rfl, .inr ⟨g, o, cap, cur, rfl, hg, hh, Nat.zero_le _, hc, hs, by simp [bvs]⟩⟩

set_option maxRecDepth 100000 in
set_option maxHeartbeats 4000000 in
theorem grow_ok (k : Nat) (hk : k ≤ 1000000000) (w : World) :
    Calls Try.prog 81 #[.slice none 0 0, .int .i64 (k : Nat)] w fun e w' => ∃ v, e = .returned v ∧ OB w' w.heap.size 5 v 0 [] ∧ Below w.heap.size w w' := by
  have O0 := Lib.hid (OB.nil w w.heap.size 5)
  go_enter Try.func81, Try.ntmps81
  by_cases h0 : k = 0
  · subst h0
    go_wp2_with fail
    go_ret
    exact ⟨_, rfl, O0.out, Below.refl _ _⟩
  · have h1 : (0 : Int) < k := by omega
    go_wp2_with (at_builtin; go_must (refine wpList_apOBz rfl _ _ rfl w.heap.size _ 0 [] rfl O0.out k rfl (by omega) (Nat.le_refl _) ?_; intro s5 c5 w5 hc5 hm5 O5 T5 B5 G5; rw [Nat.zero_add] at O5; obtain ⟨g5, o5, c6, he, _⟩ := O5.form (by omega); cases he; simp only [Nat.zero_add]; have O6 := Lib.hid O5.cut0; replace B5 := Lib.hid B5; unfold maxLen at hm5; clear T5 G5 O5))
    go_ret
    exact ⟨_, rfl, O6.out, B5.out⟩

set_option maxRecDepth 100000 in
set_option maxHeartbeats 4000000 in
theorem concat_ok (v : Value) (n : Nat) (rows : List (List Nat)) (hsz : rows.flatten.length ≤ 1000000000) (w : World) (hv : SM w v n rows) :
    Calls Try.prog 71 #[v] w fun e w' => ∃ v', e = .returned v' ∧ OB w' w.heap.size 5 v' rows.flatten.length rows.flatten ∧ Below w.heap.size w w' := by
  obtain ⟨sv, cv, rfl, hcv, hmv⟩ := hv.len
  unfold maxLen at hmv
  have hrl := Lib.hid hv.1
  replace hv := Lib.hid hv
  go_enter Try.func71, Try.ntmps71
  go_wp2_with fail
  go_loopg [3, 11] n (fun m' s i wx => ∃ j : Nat, m' = n - j ∧ j ≤ n ∧ i = .int .i64 (j : Nat) ∧ s = .int .i64 ((rows.take j).flatten.length : Nat) ∧ wx = w)
  case atStart => exact ⟨0, by omega, by omega, rfl, rfl, rfl⟩
  case round =>
    obtain ⟨j, rfl, hj, rfl, rfl, rfl⟩ := hrel
    by_cases hjn : j < n
    · obtain ⟨b, o, cap, he, _, _, _, hcell⟩ := hv.out.form (by omega)
      cases he
      obtain ⟨s, ln, c, hc, hSB⟩ := hcell j hjn
      have hst := Lib.hid (flat_step rows j (by rw [hrl.out]; exact hjn))
      have hle := flat_le rows (j + 1)
      rw [hst.out, List.length_append, hSB.1] at hle
      have hln := Lib.hid hSB.1
      generalize hq : (rows.take j).flatten.length = q at *
      replace hq := Lib.hid hq
      clear hcell hSB
      go_wp2_with fail
      go_roundg (n - (j + 1))
      case measure => omega
      case rel => exact ⟨j + 1, rfl, by omega, by go_num, by rw [hst.out, List.length_append, hln.out, hq.out]; exact congrArg _ (by push_cast; rfl), rfl⟩
    · obtain rfl : j = n := by omega
      have hall : rows.take j = rows := List.take_of_length_le (by rw [hrl.out]; exact Nat.le_refl _)
      rw [hall]
      generalize hT : rows.flatten.length = T at *
      replace hT := Lib.hid hT
      replace hall := Lib.hid hall
      go_wp2_with fail
      refine (grow_ok T hsz _).mono ?_
      rintro e w1 ⟨v1, rfl, O1, B1⟩
      obtain ⟨s1, c1, rfl, hc1, hm1⟩ := O1.len
      unfold maxLen at hm1
      replace O1 := Lib.hid O1
      replace B1 := Lib.hid B1
      dsimp only
      obtain ⟨w0, rfl⟩ : ∃ x, x = wr := ⟨_, rfl⟩
      go_wp2_with fail
      go_loopg [6, 27] j (fun m' mv i wx => ∃ (t : Nat) (s : Option Addr) (L c : Nat), m' = j - t ∧ t ≤ j ∧ i = .int .i64 (t : Nat) ∧ mv = .slice s L c ∧ L ≤ T ∧ L ≤ c ∧ c ≤ 2 ^ 63 - 1 ∧ Hid (OB wx w0.heap.size 5 mv L (rows.take t).flatten) ∧ Hid (Below w0.heap.size w0 wx))
      case atStart => exact ⟨0, s1, 0, c1, by omega, by omega, rfl, rfl, by omega, hc1, hm1, O1, B1⟩
      case round =>
        clear O1 B1 hc1 hm1
        obtain ⟨t, s2, L, c2, rfl, ht, rfl, rfl, hLT, hLc, hcm, O2, B2⟩ := hrel
        by_cases htj : t < j
        · obtain ⟨b, o, cap, he, _, _, hbw, hcell⟩ := hv.out.form (by omega)
          cases he
          obtain ⟨s, ln, c, hc, hSB⟩ := hcell t htj
          have hc1 := B2.out.cell (p := ⟨b, o + t, none⟩) hbw
          rw [hc] at hc1
          have hst := Lib.hid (flat_step rows t (by rw [hrl.out]; exact htj))
          have hle := flat_le rows (t + 1)
          rw [hst.out, List.length_append, hSB.1, hT.out, O2.out.1] at hle
          have V2 := Lib.hid (hSB.below B2.out (Nat.le_refl _))
          have hz2 := B2.out.size
          clear hcell hSB hc
          go_wp2_with (at_builtin; go_must (refine wpList_apOB rfl _ _ rfl w0.heap.size _ L _ rfl O2.out _ rfl ln _ V2.out (by omega) hz2 ?_; intro s4 c4 w4 hc4 hm4 O4 T4 B4 G4; rw [← hst.out] at O4; replace O4 := Lib.hid O4; replace B4 := Lib.hid (B2.out.trans B4); clear T4 G4; unfold maxLen at hm4))
          go_roundg (j - (t + 1))
          case measure => omega
          case rel => exact ⟨t + 1, s4, L + ln, c4, rfl, by omega, by go_num, rfl, by omega, hc4, hm4, O4, B4⟩
        · obtain rfl : t = j := by omega
          rw [hall.out] at O2
          have hLe := O2.out.1
          rw [hT.out] at hLe
          go_wp2_with fail
          go_ret
          exact ⟨_, rfl, by rw [O2.out.1]; exact O2.out, B2.out⟩
end Go.Proofs.Ytjjemkfkpnemoaa
