/- The reference's pacer: its bucket, Size, fits, last, drop. No condition but the sizes'. -/
import Derived.Test.YtgiajnfmjpdodaaPaR
import Derived.Test.YtgiajnfmjpdodaaPaK
import Derived.Test.YtgiajnfmjpdodaaPaG
namespace Go.Proofs.Ytgiajnfmjpdodaa
open Go.RowKit

def Rb (w : World) (b : Nat) (r u h : Int) : Prop := HpB w b (.cells #[.int .u64 r, .int .u64 u, .int .u64 h] 109)
theorem rbnew_any (r u : Int) (w : World) :
    Calls Try.prog 67 #[.int .u64 r, .int .u64 u] w fun e w' => e = .returned (.pointer (some ⟨w.heap.size, 0, none⟩)) ∧ w' = w.alloc (.cells #[.int .u64 r, .int .u64 u, .int .u64 u] 109) := by
  go_enter Try.func67, Try.ntmps67
  go_wp2
  go_ret
  exact ⟨rfl, rfl⟩
theorem rtake_yes (b : Nat) (r u h n : Int) (w : World) (H : Rb w b r u h) (hn : n ≤ h) (hn0 : 0 ≤ n) (hh : h ≤ 18446744073709551615) :
    Calls Try.prog 68 #[.pointer (some ⟨b, 0, none⟩), .int .u64 n] w fun e w' => e = .returned (.bool true) ∧ w' = w.setCell ⟨b, 2, none⟩ (.int .u64 (h - n)) := by
  have h0 : w.cell? ⟨b, 2, none⟩ = some (.int .u64 h) := hp_cell H 2
  have h1 := hp_frz H 2
  clear H
  go_enter Try.func68, Try.ntmps68
  go_wp2
  go_ret
  exact ⟨rfl, rfl⟩
theorem rtake_no (b : Nat) (r u h n : Int) (w : World) (H : Rb w b r u h) (hn : h < n) :
    Calls Try.prog 68 #[.pointer (some ⟨b, 0, none⟩), .int .u64 n] w fun e w' => e = .returned (.bool false) ∧ w' = w := by
  have h0 : w.cell? ⟨b, 2, none⟩ = some (.int .u64 h) := hp_cell H 2
  have h1 := hp_frz H 2
  clear H
  go_enter Try.func68, Try.ntmps68
  go_wp2
  go_ret
  exact ⟨rfl, rfl⟩
theorem rsat_any (a b : Int) (w : World) (ha : 0 ≤ a) (ha' : a ≤ 18446744073709551615) (hb : 0 ≤ b) (hb' : b ≤ 18446744073709551615) :
    Calls Try.prog 70 #[.int .u64 a, .int .u64 b] w fun e w' => e = .returned (.int .u64 (satN a b)) ∧ w = w' := by
  unfold satN
  by_cases h : 18446744073709551615 - a < b
  · rw [if_pos h]
    obtain ⟨c, hc⟩ : ∃ c, c = a + b - 18446744073709551616 := ⟨_, rfl⟩
    have hw : IntKind.u64.wrap (a + b) = c := by
      have e : a + b = c + 18446744073709551616 := by omega
      rw [e]
      simp only [IntKind.wrap, IntKind.signed, IntKind.bits, IntKind.min, IntKind.max] <;> simp <;> omega
    have d : decide (c < a) = true := by simp; omega
    go_enter Try.func70, Try.ntmps70
    go_wp2
    go_ret
    exact ⟨rfl, rfl⟩
  · rw [if_neg h]
    have hw : IntKind.u64.wrap (a + b) = a + b := IntWalk.u64_in _ (by omega)
    have d : decide (a + b < a) = false := by simp; omega
    go_enter Try.func70, Try.ntmps70
    go_wp2
    go_ret
    exact ⟨rfl, rfl⟩
theorem Rb.set {w : World} {b : Nat} {r u h : Int} (H : Rb w b r u h) (v : Int) : Rb (w.setCell ⟨b, 2, none⟩ (.int .u64 v)) b r u v := hp_set H 2 _
theorem Rb.bw {w w' : World} {b : Nat} {r u h : Int} (H : Rb w b r u h) (hb : BW w w') : Rb w' b r u h := HpB.bw H hb
set_option maxRecDepth 100000 in
set_option maxHeartbeats 8000000 in
theorem rgive_any (b : Nat) (r u h n : Int) (w : World) (H : Rb w b r u h) (h0 : 0 ≤ h) (h1 : h ≤ 18446744073709551615) (n0 : 0 ≤ n) (n1 : n ≤ 18446744073709551615) :
    Calls Try.prog 33 #[.pointer (some ⟨b, 0, none⟩), .int .u64 n] w fun e w' => e = .returned (.tuple #[]) ∧ Rb w' b r u (giveN u h n) ∧ Still [b] w w' := by
  have z2 : w.cell? ⟨b, 2, none⟩ = some (.int .u64 h) := hp_cell H 2
  have y2 := hp_frz H 2
  have c := Lib.hid (rsat_any h n w h0 h1 n0 n1)
  have hg : giveN u h n = if u < satN h n then u else satN h n := by unfold giveN; split <;> omega
  have hH := Lib.hid H
  clear H
  replace hg := Lib.hid hg
  go_enter Try.func33, Try.ntmps33
  go_wp2_with fail
  refine Calls.mono c.out ?_
  rintro e w1 ⟨rfl, rfl⟩
  have H2 := Lib.hid (hH.out.set (satN h n))
  have T2 := still_setCP w b 2 (.int .u64 (satN h n))
  replace T2 := Lib.hid T2
  generalize satN h n = s at *
  dsimp only
  go_upto_region 1 with (fail)
  generalize w.setCell ⟨b, 2, none⟩ (.int .u64 s) = w2 at *
  clear z2 y2 c
  have z1 : w2.cell? ⟨b, 1, none⟩ = some (.int .u64 u) := hp_cell H2.out 1
  have z2 : w2.cell? ⟨b, 2, none⟩ = some (.int .u64 s) := hp_cell H2.out 2
  have l1 := fun x : LaterS [] w2 => x.cell z1 (by simp)
  have l2 := fun x : LaterS [] w2 => x.cell z2 (by simp)
  replace z1 := Lib.hid z1
  replace z2 := Lib.hid z2
  by_cases hc : u < s
  · have d : decide (u < s) = true := by simpa using hc
    refine wp_region_gg [] [] [] (by kernel_rfl) ?_
    refine hoist [] [] (a1 := ?_) 0 rfl (by kernel_rfl) (.inl ⟨rfl, rfl⟩) rfl rfl rfl (fun x K hK => ?_) ?_
    rotate_left
    · go_big_quiet_op
      exact hK
    refine hoist [] [] (a1 := ?_) 1 rfl (by kernel_rfl) (.inl ⟨rfl, rfl⟩) rfl rfl rfl (fun x K hK => ?_) ?_
    rotate_left
    · go_big_quiet_op
      exact hK
    refine hoist [] [] (a1 := ?_) 2 rfl (by kernel_rfl) (.inl ⟨rfl, rfl⟩) rfl rfl rfl (fun x K hK => ?_) ?_
    rotate_left
    · go_big_quiet_op
      exact hK
    refine hoist [] [] (a1 := ?_) 3 rfl (by kernel_rfl) (.inl ⟨rfl, rfl⟩) rfl rfl rfl (fun x K hK => ?_) ?_
    rotate_left
    · go_big_quiet_op
      exact hK
    refine hoist [] [] (a1 := ?_) 4 rfl (by kernel_rfl) (.inl ⟨rfl, rfl⟩) rfl rfl rfl (fun x K hK => ?_) ?_
    rotate_left
    · go_big_quiet_op
      exact hK
    refine hoist [] [] (a1 := ?_) 5 rfl (by kernel_rfl) (.inl ⟨rfl, rfl⟩) rfl rfl rfl (fun x K hK => ?_) ?_
    rotate_left
    · go_big_quiet_op
      exact hK
    refine hoist [] [] (a1 := ?_) 6 rfl (by kernel_rfl) (.inl ⟨rfl, rfl⟩) rfl rfl rfl (fun x K hK => ?_) ?_
    rotate_left
    · go_big_quiet_op
      exact hK
    refine hoist [] [] (a1 := ?_) 7 rfl (by kernel_rfl) (.inl ⟨rfl, rfl⟩) rfl rfl rfl (fun x K hK => ?_) ?_
    rotate_left
    · go_big_quiet_op
      exact hK
    refine hoist [] [] (a1 := ?_) 8 rfl (by kernel_rfl) (.inl ⟨rfl, rfl⟩) rfl rfl rfl (fun x K hK => ?_) ?_
    rotate_left
    · go_big_quiet_op
      exact hK
    refine done (by kernel_rfl) (fun xr => ?_)
    have H3 := Lib.hid (H2.out.bw xr.bw)
    have T3 := Lib.hid (T2.out.trans (xr.bw.still [b]))
    have z1 : xr.now.cell? ⟨b, 1, none⟩ = some (.int .u64 u) := hp_cell H3.out 1
    have z2 : xr.now.cell? ⟨b, 2, none⟩ = some (.int .u64 s) := hp_cell H3.out 2
    have y2 := hp_frz H3.out 2
    clear l1 l2
    go_wp2_with fail
    go_end0
    rw [hg.out, if_pos hc]
    exact ⟨rfl, H3.out.set u, T3.out.trans (still_setCP _ _ _ _)⟩
  · have d : decide (u < s) = false := by simpa using hc
    refine wp_region_gg [] [] [] (by kernel_rfl) ?_
    refine hoist [] [] (a1 := ?_) 0 rfl (by kernel_rfl) (.inl ⟨rfl, rfl⟩) rfl rfl rfl (fun x K hK => ?_) ?_
    rotate_left
    · go_big_quiet_op
      exact hK
    refine hoist [] [] (a1 := ?_) 1 rfl (by kernel_rfl) (.inl ⟨rfl, rfl⟩) rfl rfl rfl (fun x K hK => ?_) ?_
    rotate_left
    · go_big_quiet_op
      exact hK
    refine hoist [] [] (a1 := ?_) 2 rfl (by kernel_rfl) (.inl ⟨rfl, rfl⟩) rfl rfl rfl (fun x K hK => ?_) ?_
    rotate_left
    · go_big_quiet_op
      exact hK
    refine hoist [] [] (a1 := ?_) 3 rfl (by kernel_rfl) (.inl ⟨rfl, rfl⟩) rfl rfl rfl (fun x K hK => ?_) ?_
    rotate_left
    · go_big_quiet_op
      exact hK
    refine hoist [] [] (a1 := ?_) 4 rfl (by kernel_rfl) (.inl ⟨rfl, rfl⟩) rfl rfl rfl (fun x K hK => ?_) ?_
    rotate_left
    · go_big_quiet_op
      exact hK
    refine hoist [] [] (a1 := ?_) 5 rfl (by kernel_rfl) (.inl ⟨rfl, rfl⟩) rfl rfl rfl (fun x K hK => ?_) ?_
    rotate_left
    · go_big_quiet_op
      exact hK
    refine hoist [] [] (a1 := ?_) 6 rfl (by kernel_rfl) (.inl ⟨rfl, rfl⟩) rfl rfl rfl (fun x K hK => ?_) ?_
    rotate_left
    · go_big_quiet_op
      exact hK
    refine hoist [] [] (a1 := ?_) 7 rfl (by kernel_rfl) (.inl ⟨rfl, rfl⟩) rfl rfl rfl (fun x K hK => ?_) ?_
    rotate_left
    · go_big_quiet_op
      exact hK
    refine hoist [] [] (a1 := ?_) 8 rfl (by kernel_rfl) (.inl ⟨rfl, rfl⟩) rfl rfl rfl (fun x K hK => ?_) ?_
    rotate_left
    · go_big_quiet_op
      exact hK
    refine done (by kernel_rfl) (fun xr => ?_)
    have H3 := Lib.hid (H2.out.bw xr.bw)
    have T3 := Lib.hid (T2.out.trans (xr.bw.still [b]))
    clear l1 l2
    go_wp2_with fail
    go_end0
    rw [hg.out, if_neg (by omega)]
    exact ⟨rfl, H3.out, T3.out⟩

/-- A reference's pacer: block g. -/
structure RpV (w : World) (base g : Nat) (bp : Value) (pk by_ : Int) (v : Value) (L : PL) (gone : Nat) : Prop where
  cells : HpB w g (.cells #[bp, .int .i64 pk, .int .i64 by_, v, .int .i64 (gone : Nat)] 61)
  pq : PQ w base v L.length L
theorem RpV.bw {w w' : World} {base g : Nat} {bp : Value} {pk by_ : Int} {v : Value} {L : PL} {gone : Nat} (h : RpV w base g bp pk by_ v L gone) (hb : BW w w') : RpV w' base g bp pk by_ v L gone := ⟨h.cells.bw hb, h.pq.bw hb⟩
theorem RpV.still {w w' : World} {base g : Nat} {bp : Value} {pk by_ : Int} {v : Value} {L : PL} {gone : Nat} (h : RpV w base g bp pk by_ v L gone) {S : List Nat} (hs : Still S w w') (hS : ∀ k ∈ S, NoB w k) (hg : g ∉ S) (hv : ∀ k, v.ownBlock = some k → k ∉ S) : RpV w' base g bp pk by_ v L gone := ⟨hp_st hs h.cells hg, h.pq.still hs hS hv⟩
theorem RpV.noB {w : World} {base g : Nat} {bp : Value} {pk by_ : Int} {v : Value} {L : PL} {gone : Nat} (h : RpV w base g bp pk by_ v L gone) : ∀ k ∈ [g], NoB w k := fun k hk => by
  obtain rfl : k = g := by simpa using hk
  exact .inr ⟨_, _, _, h.cells, by decide⟩
theorem RpV.setL {w : World} {base g : Nat} {bp : Value} {pk by_ : Int} {v : Value} {L : PL} {gone : Nat} (h : RpV w base g bp pk by_ v L gone) (v' : Value) (L' : PL) (hq : PQ w base v' L'.length L') : RpV (w.setCell ⟨g, 3, none⟩ v') base g bp pk by_ v' L' gone :=
  ⟨hp_set h.cells 3 v', hq.still (still_setCP w g 3 v') h.noB (fun k hk => by have := hq.ne h.cells (by decide) k hk; simpa using this)⟩
theorem RpV.setG {w : World} {base g : Nat} {bp : Value} {pk by_ : Int} {v : Value} {L : PL} {gone : Nat} (h : RpV w base g bp pk by_ v L gone) (n : Nat) : RpV (w.setCell ⟨g, 4, none⟩ (.int .i64 (n : Nat))) base g bp pk by_ v L n :=
  ⟨hp_set h.cells 4 _, h.pq.still (still_setCP w g 4 _) h.noB (fun k hk => by have := h.pq.ne h.cells (by decide) k hk; simpa using this)⟩

set_option maxRecDepth 100000 in
set_option maxHeartbeats 8000000 in
theorem rsize_any (base g : Nat) (bp : Value) (pk by_ : Int) (v : Value) (L : PL) (gone : Nat) (w : World) (h : RpV w base g bp pk by_ v L gone) (hs : lensL L ≤ 1000000000) :
    Calls Try.prog 35 #[.pointer (some ⟨g, 0, none⟩)] w fun e w' => e = .returned (.int .i64 (lensL L : Nat)) ∧ w = w' := by
  obtain ⟨sv, cv, rfl, hnc, hmc⟩ := h.pq.len
  have z3 : w.cell? ⟨g, 3, none⟩ = some (.slice sv L.length cv) := hp_cell h.cells 3
  have hQ := Lib.hid h.pq
  have hle := Lib.hid fun j => lensL_le L j
  unfold maxLen at hmc
  clear h
  generalize hn : L.length = n at *
  replace hn := Lib.hid hn
  go_enter Try.func35, Try.ntmps35
  go_upto_region 3 with (fail)
  go_loopg [3, 4] n (fun m' s i wx => ∃ k : Nat, m' = n - k ∧ k ≤ n ∧ s = .int .i64 (lensL (L.take k) : Nat) ∧ i = .int .i64 (k : Nat) ∧ w = wx)
  case atStart => exact ⟨0, by omega, by omega, rfl, rfl, rfl⟩
  case round =>
    obtain ⟨k, rfl, hk, rfl, rfl, rfl⟩ := hrel
    by_cases hkn : k < n
    · have d : decide ((k : Int) < (n : Int)) = true := by simp; omega
      obtain ⟨g1, o1, c1, hsl, _, _, _, _, hce⟩ := hQ.out.form (by omega)
      simp only [Value.slice.injEq] at hsl
      obtain ⟨rfl, -, rfl⟩ := hsl
      obtain ⟨u1, -, y2, y3⟩ := hce k (by rw [hn.out]; exact hkn)
      rw [← Nat.add_assoc] at y2
      have ht := lensL_take L k (by rw [hn.out]; exact hkn)
      have hl1 := hle.out (k + 1)
      obtain ⟨su, cu, rfl, _, _⟩ := y3.len
      generalize hL1 : lensL (L.take (k + 1)) = L1 at *
      generalize lensL (L.take k) = L0 at *
      generalize (L[k]'(by rw [hn.out]; exact hkn)).2.length = bl at *
      replace hL1 := Lib.hid hL1
      clear y3 hce
      have hu : (L0 : Int) + (bl : Int) ≤ 1000000000 := by omega
      replace ht := Lib.hid ht
      go_wp2_with fail
      go_roundg (n - (k + 1))
      case measure => omega
      case rel => exact ⟨k + 1, rfl, by omega, by rw [hL1.out, ht.out]; push_cast; rfl, by push_cast; rfl, rfl⟩
    · obtain rfl : k = n := by omega
      have d : decide ((k : Int) < (k : Int)) = false := by simp
      rw [List.take_of_length_le (by rw [hn.out]; exact Nat.le_refl _)]
      go_wp2_with fail
      go_ret
      exact ⟨rfl, rfl⟩
set_option maxRecDepth 100000 in
set_option maxHeartbeats 8000000 in
theorem rfits_any (base g : Nat) (bp : Value) (pk by_ : Int) (v : Value) (L : PL) (gone n : Nat) (w : World) (h : RpV w base g bp pk by_ v L gone) (hs : lensL L ≤ 1000000000) (hl : L.length ≤ 1000000) (hn : n ≤ 1000) :
    Calls Try.prog 71 #[.pointer (some ⟨g, 0, none⟩), .int .i64 (n : Nat)] w fun e w' => e = .returned (.bool (fitsB pk by_ L n)) ∧ BW w w' := by
  obtain ⟨sv, cv, rfl, hnc, hmc⟩ := h.pq.len
  have z1 : w.cell? ⟨g, 1, none⟩ = some (.int .i64 pk) := hp_cell h.cells 1
  have z2 : w.cell? ⟨g, 2, none⟩ = some (.int .i64 by_) := hp_cell h.cells 2
  have z3 : w.cell? ⟨g, 3, none⟩ = some (.slice sv L.length cv) := hp_cell h.cells 3
  have cS := fun wz (hb : BW w wz) => Lib.hid (rsize_any base g bp pk by_ _ L gone wz (h.bw hb) hs)
  have hR : fitsB pk by_ L n = decide ((L.length : Int) + 1 ≤ pk ∧ (lensL L : Int) + n ≤ by_) := rfl
  rw [hR]
  clear hR h
  generalize lensL L = Z at *
  generalize L.length = m at *
  unfold maxLen at hmc
  have q1 : IntKind.i64.wrap ((m : Int) + 1) = (m : Int) + 1 := IntWalk.i64_in _ (by omega)
  have q2 : IntKind.i64.wrap ((Z : Int) + (n : Int)) = (Z : Int) + (n : Int) := IntWalk.i64_in _ (by omega)
  have l1 := fun x : LaterS [] w => x.cell z1 (by simp)
  have l2 := fun x : LaterS [] w => x.cell z2 (by simp)
  have l3 := fun x : LaterS [] w => x.cell z3 (by simp)
  replace z1 := Lib.hid z1
  replace z2 := Lib.hid z2
  replace z3 := Lib.hid z3
  by_cases hA : (m : Int) + 1 ≤ pk
  case neg =>
    have dA : decide ((m : Int) + 1 ≤ pk) = false := by simpa using hA
    rw [decide_eq_false (fun h => hA h.1)]
    go_enter Try.func71, Try.ntmps71
    go_upto_region 1 with (fail)
    refine wp_region_gg [] [] [] (by kernel_rfl) ?_
    refine hoist [] [] (a1 := ?_) 0 rfl (by kernel_rfl) (.inl ⟨rfl, rfl⟩) rfl rfl rfl (fun x K hK => ?_) ?_
    rotate_left
    · go_big_quiet_op
      exact hK
    refine hoist [] [] (a1 := ?_) 1 rfl (by kernel_rfl) (.inl ⟨rfl, rfl⟩) rfl rfl rfl (fun x K hK => ?_) ?_
    rotate_left
    · go_big_quiet_op
      exact hK
    refine hoist [] [] (a1 := ?_) 2 rfl (by kernel_rfl) (.inl ⟨rfl, rfl⟩) rfl rfl rfl (fun x K hK => ?_) ?_
    rotate_left
    · go_big_quiet_op
      exact hK
    refine hoist [] [] (a1 := ?_) 3 rfl (by kernel_rfl) (.inl ⟨rfl, rfl⟩) rfl rfl rfl (fun x K hK => ?_) ?_
    rotate_left
    · go_big_quiet_op
      exact hK
    refine hoist [] [] (a1 := ?_) 4 rfl (by kernel_rfl) (.inl ⟨rfl, rfl⟩) rfl rfl rfl (fun x K hK => ?_) ?_
    rotate_left
    · go_big_quiet_op
      exact hK
    refine hoist [] [] (a1 := ?_) 5 rfl (by kernel_rfl) (.inl ⟨rfl, rfl⟩) rfl rfl rfl (fun x K hK => ?_) ?_
    rotate_left
    · go_big_quiet_op
      exact hK
    refine hoist [] [] (a1 := ?_) 6 rfl (by kernel_rfl) (.inl ⟨rfl, rfl⟩) rfl rfl rfl (fun x K hK => ?_) ?_
    rotate_left
    · go_big_quiet_op
      exact hK
    refine hoist [] [] (a1 := ?_) 7 rfl (by kernel_rfl) (.inl ⟨rfl, rfl⟩) rfl rfl rfl (fun x K hK => ?_) ?_
    rotate_left
    · go_big_quiet_op
      exact hK
    refine hoist [] [] (a1 := ?_) 8 rfl (by kernel_rfl) (.inl ⟨rfl, rfl⟩) rfl rfl rfl (fun x K hK => ?_) ?_
    rotate_left
    · go_big_quiet_op
      exact hK
    refine hoist [] [] (a1 := ?_) 9 rfl (by kernel_rfl) (.inl ⟨rfl, rfl⟩) rfl rfl rfl (fun x K hK => ?_) ?_
    rotate_left
    · go_big_quiet_op
      exact hK
    refine hoist [] [] (a1 := ?_) 10 rfl (by kernel_rfl) (.inl ⟨rfl, rfl⟩) rfl rfl rfl (fun x K hK => ?_) ?_
    rotate_left
    · go_big_quiet_op
      exact hK
    refine hoist [] [] (a1 := ?_) 11 rfl (by kernel_rfl) (.inl ⟨rfl, rfl⟩) rfl rfl rfl (fun x K hK => ?_) ?_
    rotate_left
    · go_big_quiet_op
      exact hK
    refine hoist_skip [] [] 12 rfl (by kernel_rfl) (.inl ⟨rfl, rfl⟩) rfl (a1 := ?_) ?_ ?_
    rotate_left
    · simp only [Act.put, List.setIfInBounds_toArray, List.set_cons_succ, List.set_cons_zero]; rfl
    refine hoist_skip [] [] 13 rfl (by kernel_rfl) (.inl ⟨rfl, rfl⟩) rfl (a1 := ?_) ?_ ?_
    rotate_left
    · simp only [Act.put, List.setIfInBounds_toArray, List.set_cons_succ, List.set_cons_zero]; rfl
    refine hoist_skip [] [] 14 rfl (by kernel_rfl) (.inl ⟨rfl, rfl⟩) rfl (a1 := ?_) ?_ ?_
    rotate_left
    · simp only [Act.put, List.setIfInBounds_toArray, List.set_cons_succ, List.set_cons_zero]; rfl
    refine hoist_skip [] [] 15 rfl (by kernel_rfl) (.inl ⟨rfl, rfl⟩) rfl (a1 := ?_) ?_ ?_
    rotate_left
    · simp only [Act.put, List.setIfInBounds_toArray, List.set_cons_succ, List.set_cons_zero]; rfl
    refine hoist_skip [] [] 16 rfl (by kernel_rfl) (.inl ⟨rfl, rfl⟩) rfl (a1 := ?_) ?_ ?_
    rotate_left
    · simp only [Act.put, List.setIfInBounds_toArray, List.set_cons_succ, List.set_cons_zero]; rfl
    refine hoist_skip [] [] 17 rfl (by kernel_rfl) (.inl ⟨rfl, rfl⟩) rfl (a1 := ?_) ?_ ?_
    rotate_left
    · simp only [Act.put, List.setIfInBounds_toArray, List.set_cons_succ, List.set_cons_zero]; rfl
    refine hoist_skip [] [] 18 rfl (by kernel_rfl) (.inl ⟨rfl, rfl⟩) rfl (a1 := ?_) ?_ ?_
    rotate_left
    · simp only [Act.put, List.setIfInBounds_toArray, List.set_cons_succ, List.set_cons_zero]; rfl
    refine hoist_skip [] [] 19 rfl (by kernel_rfl) (.inl ⟨rfl, rfl⟩) rfl (a1 := ?_) ?_ ?_
    rotate_left
    · simp only [Act.put, List.setIfInBounds_toArray, List.set_cons_succ, List.set_cons_zero]; rfl
    refine hoist_skip [] [] 20 rfl (by kernel_rfl) (.inl ⟨rfl, rfl⟩) rfl (a1 := ?_) ?_ ?_
    rotate_left
    · simp only [Act.put, List.setIfInBounds_toArray, List.set_cons_succ, List.set_cons_zero]; rfl
    refine hoist [] [] (a1 := ?_) 21 rfl (by kernel_rfl) (.inl ⟨rfl, rfl⟩) rfl rfl rfl (fun x K hK => ?_) ?_
    rotate_left
    · go_big_quiet_op
      exact hK
    refine hoist [] [] (a1 := ?_) 22 rfl (by kernel_rfl) (.inl ⟨rfl, rfl⟩) rfl rfl rfl (fun x K hK => ?_) ?_
    rotate_left
    · go_big_quiet_op
      exact hK
    refine done (by kernel_rfl) (fun xr => ?_)
    go_wp2_with fail
    go_ret
    exact ⟨rfl, xr.bw⟩
  have dA : decide ((m : Int) + 1 ≤ pk) = true := by simpa using hA
  rw [show decide ((m : Int) + 1 ≤ pk ∧ (Z : Int) + n ≤ by_) = decide ((Z : Int) + n ≤ by_) from by simp only [hA, true_and]]
  generalize hC : decide ((Z : Int) + (n : Int) ≤ by_) = rc at *
  go_enter Try.func71, Try.ntmps71
  go_upto_region 1 with (fail)
  refine wp_region_gg [] [] [] (by kernel_rfl) ?_
  refine hoist [] [] (a1 := ?_) 0 rfl (by kernel_rfl) (.inl ⟨rfl, rfl⟩) rfl rfl rfl (fun x K hK => ?_) ?_
  rotate_left
  · go_big_quiet_op
    exact hK
  refine hoist [] [] (a1 := ?_) 1 rfl (by kernel_rfl) (.inl ⟨rfl, rfl⟩) rfl rfl rfl (fun x K hK => ?_) ?_
  rotate_left
  · go_big_quiet_op
    exact hK
  refine hoist [] [] (a1 := ?_) 2 rfl (by kernel_rfl) (.inl ⟨rfl, rfl⟩) rfl rfl rfl (fun x K hK => ?_) ?_
  rotate_left
  · go_big_quiet_op
    exact hK
  refine hoist [] [] (a1 := ?_) 3 rfl (by kernel_rfl) (.inl ⟨rfl, rfl⟩) rfl rfl rfl (fun x K hK => ?_) ?_
  rotate_left
  · go_big_quiet_op
    exact hK
  refine hoist [] [] (a1 := ?_) 4 rfl (by kernel_rfl) (.inl ⟨rfl, rfl⟩) rfl rfl rfl (fun x K hK => ?_) ?_
  rotate_left
  · go_big_quiet_op
    exact hK
  refine hoist [] [] (a1 := ?_) 5 rfl (by kernel_rfl) (.inl ⟨rfl, rfl⟩) rfl rfl rfl (fun x K hK => ?_) ?_
  rotate_left
  · go_big_quiet_op
    exact hK
  refine hoist [] [] (a1 := ?_) 6 rfl (by kernel_rfl) (.inl ⟨rfl, rfl⟩) rfl rfl rfl (fun x K hK => ?_) ?_
  rotate_left
  · go_big_quiet_op
    exact hK
  refine hoist [] [] (a1 := ?_) 7 rfl (by kernel_rfl) (.inl ⟨rfl, rfl⟩) rfl rfl rfl (fun x K hK => ?_) ?_
  rotate_left
  · go_big_quiet_op
    exact hK
  refine hoist [] [] (a1 := ?_) 8 rfl (by kernel_rfl) (.inl ⟨rfl, rfl⟩) rfl rfl rfl (fun x K hK => ?_) ?_
  rotate_left
  · go_big_quiet_op
    exact hK
  refine hoist [] [] (a1 := ?_) 9 rfl (by kernel_rfl) (.inl ⟨rfl, rfl⟩) rfl rfl rfl (fun x K hK => ?_) ?_
  rotate_left
  · go_big_quiet_op
    exact hK
  refine hoist [] [] (a1 := ?_) 10 rfl (by kernel_rfl) (.inl ⟨rfl, rfl⟩) rfl rfl rfl (fun x K hK => ?_) ?_
  rotate_left
  · go_big_quiet_op
    exact hK
  refine hoist [] [] (a1 := ?_) 11 rfl (by kernel_rfl) (.inl ⟨rfl, rfl⟩) rfl rfl rfl (fun x K hK => ?_) ?_
  rotate_left
  · go_big_quiet_op
    exact hK
  refine hoist [] [] (a1 := ?_) 12 rfl (by kernel_rfl) (.inl ⟨rfl, rfl⟩) rfl rfl rfl (fun x K hK => ?_) ?_
  rotate_left
  · go_big_quiet_op
    exact hK
  refine hoist_call [] [] (a1 := ?_) 13 rfl (by kernel_rfl) (.inl ⟨rfl, rfl⟩) rfl rfl rfl (fun x K hK => ?_) ?_
  rotate_left
  · go_big_quiet_op
    apply Exists.intro
    refine ⟨fun y => ?_, ?_⟩
    · exact ((cS y.now (x.bw.trans y.bw)).out).mono fun e w'' h => ⟨h.1, y, h.2.symm⟩
    · exact hK
  refine hoist [] [] (a1 := ?_) 14 rfl (by kernel_rfl) (.inl ⟨rfl, rfl⟩) rfl rfl rfl (fun x K hK => ?_) ?_
  rotate_left
  · go_big_quiet_op
    exact hK
  refine hoist [] [] (a1 := ?_) 15 rfl (by kernel_rfl) (.inl ⟨rfl, rfl⟩) rfl rfl rfl (fun x K hK => ?_) ?_
  rotate_left
  · go_big_quiet_op
    exact hK
  refine hoist [] [] (a1 := ?_) 16 rfl (by kernel_rfl) (.inl ⟨rfl, rfl⟩) rfl rfl rfl (fun x K hK => ?_) ?_
  rotate_left
  · go_big_quiet_op
    exact hK
  refine hoist [] [] (a1 := ?_) 17 rfl (by kernel_rfl) (.inl ⟨rfl, rfl⟩) rfl rfl rfl (fun x K hK => ?_) ?_
  rotate_left
  · go_big_quiet_op
    exact hK
  refine hoist [] [] (a1 := ?_) 18 rfl (by kernel_rfl) (.inl ⟨rfl, rfl⟩) rfl rfl rfl (fun x K hK => ?_) ?_
  rotate_left
  · go_big_quiet_op
    exact hK
  refine hoist [] [] (a1 := ?_) 19 rfl (by kernel_rfl) (.inl ⟨rfl, rfl⟩) rfl rfl rfl (fun x K hK => ?_) ?_
  rotate_left
  · go_big_quiet_op
    exact hK
  refine hoist [] [] (a1 := ?_) 20 rfl (by kernel_rfl) (.inl ⟨rfl, rfl⟩) rfl rfl rfl (fun x K hK => ?_) ?_
  rotate_left
  · go_big_quiet_op
    exact hK
  refine hoist [] [] (a1 := ?_) 21 rfl (by kernel_rfl) (.inl ⟨rfl, rfl⟩) rfl rfl rfl (fun x K hK => ?_) ?_
  rotate_left
  · go_big_quiet_op
    exact hK
  refine hoist [] [] (a1 := ?_) 22 rfl (by kernel_rfl) (.inl ⟨rfl, rfl⟩) rfl rfl rfl (fun x K hK => ?_) ?_
  rotate_left
  · go_big_quiet_op
    exact hK
  refine done (by kernel_rfl) (fun xr => ?_)
  go_wp2_with fail
  go_ret
  exact ⟨rfl, xr.bw⟩
end Go.Proofs.Ytgiajnfmjpdodaa
