import Derived.Test.YtdncopcnkjpbpaaBkW
import Derived.Test.YtdncopcnkjpbpaaRd
namespace Go.Proofs.Ytdncopcnkjpbpaa
open Go.RowKit

theorem give_bound (u h r : Int) (hh : 0 ≤ h) (hr : 0 ≤ r) : giveN u h r ≤ h + r ∧ giveN u h r ≤ u ∧ (0 ≤ u → 0 ≤ giveN u h r) := by
  unfold giveN satN
  split <;> omega

theorem op_at {w : World} {a : Option Addr} {len cap : Nat} (h : Rd w (.loop (.scope (.seq (.label 4) (.seq (.label 7) .skip)))) [.slice a len cap]) :
    len ≤ cap ∧ (len = 0 ∨ ∃ (b o : Nat) (F G : Nat → Int), a = some ⟨b, o, none⟩ ∧ b < w.heap.size ∧ ∀ i, i < len → w.cell? ⟨b, o + i * 2, none⟩ = some (.int .u8 (F i)) ∧ w.cell? ⟨b, o + i * 2 + 1, none⟩ = some (.int .u64 (G i)) ∧ 0 ≤ F i ∧ F i ≤ 255 ∧ 0 ≤ G i ∧ G i ≤ 18446744073709551615) := by
  obtain ⟨h1, h2, h3⟩ := Rd.slice_at h (by decide)
  refine ⟨h1, ?_⟩
  rcases h3 with ⟨_, h, _⟩ | ⟨_, h, _⟩ | ⟨b, o, rfl, hb, hc, hi⟩
  · exact .inl h
  · exact .inl h
  · right
    refine ⟨b, o, fun i => intOf ((w.cell? ⟨b, o + i * 2, none⟩).getD undef), fun i => intOf ((w.cell? ⟨b, o + i * 2 + 1, none⟩).getD undef), rfl, hb, fun i hil => ?_⟩
    obtain ⟨cs, hl, hr, hx⟩ := hi i (by omega)
    obtain ⟨c1, c2, rfl, ⟨n1, rfl, hw1⟩, c3, c4, rfl, ⟨n2, rfl, hw2⟩, hnil⟩ := hr
    cases hnil
    have e0 := hx 0 (by decide)
    have e1 := hx 1 (by decide)
    have e0' : w.cell? ⟨b, o + i * 2, none⟩ = some (.int .u8 n1) := e0
    have e1' : w.cell? ⟨b, o + i * 2 + 1, none⟩ = some (.int .u64 n2) := e1
    have b1 := bounds_u8 hw1
    have b2 := bounds_u64 hw2
    dsimp only
    rw [e0', e1']
    exact ⟨rfl, rfl, b1.1, b1.2, b2.1, b2.2⟩

set_option maxRecDepth 100000 in
theorem law_bounds (r u : Int) (a : Option Addr) (len cap : Nat) (w : World) (wr : (Lit.int .u16 r).wf = true) (wu : (Lit.int .u16 u).wf = true) (wl : Rd w (.loop (.scope (.seq (.label 4) (.seq (.label 7) .skip)))) [.slice a len cap]) :
    Calls Try.prog 4 #[.int .u16 r, .int .u16 u, .slice a len cap] w fun e w' => e = .returned (.bool true) ∧ Below w.heap.size w w' := by
  obtain ⟨hr0, hr1⟩ := bounds_u16 wr
  obtain ⟨hu0, hu1⟩ := bounds_u16 wu
  clear wr wu
  obtain ⟨hlc, hop⟩ := op_at wl
  have hlm : len ≤ 9223372036854775807 := by have := (Rd.slice_at wl (by decide)).2.1; unfold maxLen at this; omega
  clear wl
  replace hop := Lib.hid hop
  go_enter Try.func4, Try.ntmps4
  go_wp2_with fail
  refine (alive9 w).mono ?_
  rintro e w1 ⟨rfl, hb⟩
  go_wp2_with fail
  refine (new_any r u w1).mono ?_
  rintro e w2 ⟨rfl, rfl⟩
  have H0 := Lib.hid (Bk.alloc w1 r u u)
  have L0 := hb.trans (((Below.refl _ _).alloc (Nat.le_refl _) (.cells #[.int .u64 r, .int .u64 u, .int .u64 u] 52)).mono hb.size)
  have hbz := hb.size
  have hz0 : w1.heap.size < (w1.alloc (.cells #[.int .u64 r, .int .u64 u, .int .u64 u] 52)).heap.size := by simp
  clear hb
  generalize w1.alloc (.cells #[.int .u64 r, .int .u64 u, .int .u64 u] 52) = w2 at *
  generalize w1.heap.size = b at *
  go_wp2_with fail
  go_loopw [8, 9, 10] (fun tk ts i w' => ∃ (k : Nat) (h tk' ts' : Int), k ≤ 200 ∧ (k ≤ len ∨ k = 0) ∧ i = .int .i64 k ∧ tk = .int .u64 tk' ∧ ts = .int .u64 ts' ∧ 0 ≤ ts' ∧ ts' ≤ k ∧ 0 ≤ h ∧ h ≤ u ∧ 0 ≤ tk' ∧ h + tk' ≤ u + ts' * r ∧ Hid (Bk w' b r u h) ∧ Below w.heap.size w w' ∧ b < w'.heap.size) (fun _ _ i _ => (200 - intOf i).toNat)
  case atStart => exact ⟨0, u, 0, 0, by omega, by omega, rfl, rfl, rfl, by omega, by omega, by omega, by omega, by omega, by omega, H0, L0, hz0⟩
  case round =>
    obtain ⟨k, h, tk, ts, hk, hkl, rfl, rfl, rfl, ht0, ht1, hh0, hh1, htk0, hinv, HB, HL, hz⟩ := hrel
    have hmul : 0 ≤ ts * r := Int.mul_nonneg ht0 hr0
    have hmul2 : ts * r ≤ 200 * 65535 := Int.mul_le_mul (by omega) hr1 hr0 (by omega)
    have hmul3 : (ts + 1) * r = ts * r + r := by rw [Int.add_mul, Int.one_mul]
    by_cases hlen : k < len
    · by_cases hk2 : k < 200
      · rcases hop.out with h0 | ⟨lb, lo, F, G, rfl, hlb, hcell⟩
        · omega
        obtain ⟨c1, c2, hF0, hF1, hG0, hG1⟩ := hcell k hlen
        rw [← HL.cell (p := ⟨lb, lo + k * 2, none⟩) hlb] at c1
        rw [← HL.cell (p := ⟨lb, lo + k * 2 + 1, none⟩) hlb] at c2
        clear hcell
        generalize F k = Fk at *
        generalize G k = Gk at *
        have hG2 : 0 ≤ Gk % 100000 := by omega
        have hG3 : Gk % 100000 < 100000 := by omega
        by_cases hkind : Fk % 3 = 0
        · have hk1 : (Fk % 3 == 0) = true := by simp [hkind]
          go_wp2_with fail
          refine (tick_any _ r u h wr HB.out hr0 hh0 (by omega)).mono ?_
          rintro e w6 ⟨rfl, w7, hb7, rfl⟩
          obtain ⟨g1, g2, g3⟩ := give_bound u h r hh0 hr0
          replace g3 := g3 hu0
          have H8 := Lib.hid ((HB.out.below hb7 hz).set (giveN u h r))
          have L8 := (HL.trans (hb7.mono HL.size)).setCell (p := ⟨b, 2, none⟩) (by omega) (.int .u64 (giveN u h r))
          have hz8 : b < (w7.setCell ⟨b, 2, none⟩ (.int .u64 (giveN u h r))).heap.size := by have := hb7.size; simp; omega
          generalize w7.setCell ⟨b, 2, none⟩ (.int .u64 (giveN u h r)) = w8 at *
          generalize giveN u h r = g at *
          clear hb7 HB H0 c1 c2 hkind
          have ht2 : tk ≤ u + (ts + 1) * r := by omega
          go_wp2
          go_roundw
          case rel => exact ⟨k + 1, g, tk, ts + 1, by omega, by omega, by go_num, rfl, rfl, by omega, by omega, g3, g2, htk0, by omega, H8, L8, hz8⟩
          case measure => simp [intOf]; omega
        · have hk1 : (Fk % 3 == 0) = false := by simp [hkind]
          go_wp2_with fail
          refine (take_some _ r u h (Gk % 100000) wr HB.out hG2 hh0 (by omega)).mono ?_
          rintro e w6 ⟨h', rfl, H8, g0, g1, g2, g3, hb7, hz7⟩
          replace H8 := Lib.hid H8
          have L8 := HL.trans (hb7.mono hbz)
          rw [← hz7] at hz
          clear hb7 hz7 HB H0 c1 c2 hkind
          generalize Gk % 100000 = n at *
          by_cases hn : n ≤ h
          · have g4 := g2 hn
            clear g2 g3
            have hsum : tk + n ≤ u + ts * r := by omega
            go_wp2
            go_roundw
            case rel => exact ⟨k + 1, h', tk + n, ts, by omega, by omega, by go_num, rfl, rfl, by omega, by omega, by omega, by omega, by omega, by omega, H8, L8, hz⟩
            case measure => simp [intOf]; omega
          · have g4 := g3 hn
            clear g2 g3
            go_wp2
            go_roundw
            case rel => exact ⟨k + 1, h', tk, ts, by omega, by omega, by go_num, rfl, rfl, by omega, by omega, by omega, by omega, by omega, by omega, H8, L8, hz⟩
            case measure => simp [intOf]; omega
      · go_wp2
        go_ret
        exact ⟨rfl, HL⟩
    · go_wp2
      go_ret
      exact ⟨rfl, HL⟩
end Go.Proofs.Ytdncopcnkjpbpaa
