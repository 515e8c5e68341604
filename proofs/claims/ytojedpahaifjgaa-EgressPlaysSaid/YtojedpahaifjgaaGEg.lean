/- The reference's bucket (tenailleref09): New, Take, Give; out of PaS by wip/gen/genEpG.py. No condition but the numbers' bounds. The likely index: the reference's (tenailleref02.Index), by a plain function. No condition but the numbers' bounds. The program's likely index (seqs.Index), exact: the plain function idxN. No condition but the numbers' bounds. tenailleref28.May; printed by wip/gen/genEpJ.py. No condition. -/
import Derived.Test.YtojedpahaifjgaaBk0
import Derived.Test.YtojedpahaifjgaaGKi
import Derived.Test.YtojedpahaifjgaaGEl
namespace Go.Proofs.Ytojedpahaifjgaa
open Go.RowKit
def Rb (w : World) (b : Nat) (r u h : Int) : Prop := HpB w b (.cells #[.int .u64 r, .int .u64 u, .int .u64 h] 92)
theorem rbnew_any (r u : Int) (w : World) :
  Calls Try.prog 52 #[.int .u64 r, .int .u64 u] w fun e w' => e = .returned (.pointer (some ⟨w.heap.size, 0, none⟩)) ∧ w' = w.alloc (.cells #[.int .u64 r, .int .u64 u, .int .u64 u] 92) := by
 go_enter Try.func52, Try.ntmps52
 go_wp2
 go_ret
 exact ⟨rfl, rfl⟩
theorem rtake_yes (b : Nat) (r u h n : Int) (w : World) (H : Rb w b r u h) (hn : n ≤ h) (hn0 : 0 ≤ n) (hh : h ≤ 18446744073709551615) :
  Calls Try.prog 57 #[.pointer (some ⟨b, 0, none⟩), .int .u64 n] w fun e w' => e = .returned (.bool true) ∧ w' = w.setCell ⟨b, 2, none⟩ (.int .u64 (h - n)) := by
 have h0 : w.cell? ⟨b, 2, none⟩ = some (.int .u64 h) := hp_cell H 2
 have h1 := hp_frz H 2
 clear H
 go_enter Try.func57, Try.ntmps57
 go_wp2
 go_ret
 exact ⟨rfl, rfl⟩
theorem rtake_no (b : Nat) (r u h n : Int) (w : World) (H : Rb w b r u h) (hn : h < n) :
  Calls Try.prog 57 #[.pointer (some ⟨b, 0, none⟩), .int .u64 n] w fun e w' => e = .returned (.bool false) ∧ w' = w := by
 have h0 : w.cell? ⟨b, 2, none⟩ = some (.int .u64 h) := hp_cell H 2
 have h1 := hp_frz H 2
 clear H
 go_enter Try.func57, Try.ntmps57
 go_wp2
 go_ret
 exact ⟨rfl, rfl⟩
theorem rsat_any (a b : Int) (w : World) (ha : 0 ≤ a) (ha' : a ≤ 18446744073709551615) (hb : 0 ≤ b) (hb' : b ≤ 18446744073709551615) :
  Calls Try.prog 58 #[.int .u64 a, .int .u64 b] w fun e w' => e = .returned (.int .u64 (satN a b)) ∧ w = w' := by
 unfold satN
 by_cases h : 18446744073709551615 - a < b
 ·rw [if_pos h]
  obtain ⟨c, hc⟩ : ∃ c, c = a + b - 18446744073709551616 := ⟨_, rfl⟩
  have hw : IntKind.u64.wrap (a + b) = c := by
   have e : a + b = c + 18446744073709551616 := by omega
   rw [e]
   simp only [IntKind.wrap, IntKind.signed, IntKind.bits, IntKind.min, IntKind.max] <;> simp <;> omega
  have d : decide (c < a) = true := by simp; omega
  go_enter Try.func58, Try.ntmps58
  go_wp2
  go_ret
  exact ⟨rfl, rfl⟩
 ·rw [if_neg h]
  have hw : IntKind.u64.wrap (a + b) = a + b := IntWalk.u64_in _ (by omega)
  have d : decide (a + b < a) = false := by simp; omega
  go_enter Try.func58, Try.ntmps58
  go_wp2
  go_ret
  exact ⟨rfl, rfl⟩
theorem Rb.set {w : World} {b : Nat} {r u h : Int} (H : Rb w b r u h) (v : Int) : Rb (w.setCell ⟨b, 2, none⟩ (.int .u64 v)) b r u v := hp_set H 2 _
theorem Rb.bw {w w' : World} {b : Nat} {r u h : Int} (H : Rb w b r u h) (hb : BW w w') : Rb w' b r u h := HpB.bw H hb
set_option maxRecDepth 100000 in
set_option maxHeartbeats 8000000 in
theorem rgive_any (b : Nat) (r u h n : Int) (w : World) (H : Rb w b r u h) (h0 : 0 ≤ h) (h1 : h ≤ 18446744073709551615) (n0 : 0 ≤ n) (n1 : n ≤ 18446744073709551615) :
  Calls Try.prog 23 #[.pointer (some ⟨b, 0, none⟩), .int .u64 n] w fun e w' => e = .returned (.tuple #[]) ∧ Rb w' b r u (giveN u h n) ∧ Still [b] w w' := by
 have z2 : w.cell? ⟨b, 2, none⟩ = some (.int .u64 h) := hp_cell H 2
 have y2 := hp_frz H 2
 have c := Lib.hid (rsat_any h n w h0 h1 n0 n1)
 have hg : giveN u h n = if u < satN h n then u else satN h n := by unfold giveN; split <;> omega
 have hH := Lib.hid H
 clear H
 replace hg := Lib.hid hg
 go_enter Try.func23, Try.ntmps23
 go_wp2_with fail
 refine Calls.mono c.out ?_
 rintro e w1 ⟨rfl, rfl⟩
 have H2 := Lib.hid (hH.out.set (satN h n))
 have T2 := still_sc w b 2 (.int .u64 (satN h n))
 replace T2 := Lib.hid T2
 generalize satN h n = s at *
 dsimp only
 go_upto_region 1 with (fail)
 generalize w.setCell ⟨b, 2, none⟩ (.int .u64 s) = w2 at *
 clear z2 y2 c
 have z1 : w2.cell? ⟨b, 1, none⟩ = some (.int .u64 u) := hp_cell H2.out 1
 have z2 : w2.cell? ⟨b, 2, none⟩ = some (.int .u64 s) := hp_cell H2.out 2
 have l1 := fun x : LaterS [] w2 => x.cell z1 (by simp)
 have l2 := fun x : LaterS [] w2 => x.cell z2 (by simp)
 replace z1 := Lib.hid z1
 replace z2 := Lib.hid z2
 by_cases hc : u < s
 ·have d : decide (u < s) = true := by simpa using hc
  refine wp_region_gg [] [] [] (by kernel_rfl) ?_
  refine hoist [] [] (a1 := ?_) 0 rfl (by kernel_rfl) (.inl ⟨rfl, rfl⟩) rfl rfl rfl (fun x K hK => ?_) ?_
  rotate_left
  ·go_big_quiet_op
   exact hK
  refine hoist [] [] (a1 := ?_) 1 rfl (by kernel_rfl) (.inl ⟨rfl, rfl⟩) rfl rfl rfl (fun x K hK => ?_) ?_
  rotate_left
  ·go_big_quiet_op
   exact hK
  refine hoist [] [] (a1 := ?_) 2 rfl (by kernel_rfl) (.inl ⟨rfl, rfl⟩) rfl rfl rfl (fun x K hK => ?_) ?_
  rotate_left
  ·go_big_quiet_op
   exact hK
  refine hoist [] [] (a1 := ?_) 3 rfl (by kernel_rfl) (.inl ⟨rfl, rfl⟩) rfl rfl rfl (fun x K hK => ?_) ?_
  rotate_left
  ·go_big_quiet_op
   exact hK
  refine hoist [] [] (a1 := ?_) 4 rfl (by kernel_rfl) (.inl ⟨rfl, rfl⟩) rfl rfl rfl (fun x K hK => ?_) ?_
  rotate_left
  ·go_big_quiet_op
   exact hK
  refine hoist [] [] (a1 := ?_) 5 rfl (by kernel_rfl) (.inl ⟨rfl, rfl⟩) rfl rfl rfl (fun x K hK => ?_) ?_
  rotate_left
  ·go_big_quiet_op
   exact hK
  refine hoist [] [] (a1 := ?_) 6 rfl (by kernel_rfl) (.inl ⟨rfl, rfl⟩) rfl rfl rfl (fun x K hK => ?_) ?_
  rotate_left
  ·go_big_quiet_op
   exact hK
  refine hoist [] [] (a1 := ?_) 7 rfl (by kernel_rfl) (.inl ⟨rfl, rfl⟩) rfl rfl rfl (fun x K hK => ?_) ?_
  rotate_left
  ·go_big_quiet_op
   exact hK
  refine hoist [] [] (a1 := ?_) 8 rfl (by kernel_rfl) (.inl ⟨rfl, rfl⟩) rfl rfl rfl (fun x K hK => ?_) ?_
  rotate_left
  ·go_big_quiet_op
   exact hK
  refine done (by kernel_rfl) (fun xr => ?_)
  have H3 := Lib.hid (H2.out.bw xr.bw)
  have T3 := Lib.hid (T2.out.trans (xr.bw.still [b]))
  have z1 : xr.now.cell? ⟨b, 1, none⟩ = some (.int .u64 u) := hp_cell H3.out 1
  have z2 : xr.now.cell? ⟨b, 2, none⟩ = some (.int .u64 s) := hp_cell H3.out 2
  have y2 := hp_frz H3.out 2
  clear l1 l2
  go_wp2_with fail
  go_end0
  rw [hg.out, if_pos hc]
  exact ⟨rfl, H3.out.set u, T3.out.trans (still_sc _ _ _ _)⟩
 ·have d : decide (u < s) = false := by simpa using hc
  refine wp_region_gg [] [] [] (by kernel_rfl) ?_
  refine hoist [] [] (a1 := ?_) 0 rfl (by kernel_rfl) (.inl ⟨rfl, rfl⟩) rfl rfl rfl (fun x K hK => ?_) ?_
  rotate_left
  ·go_big_quiet_op
   exact hK
  refine hoist [] [] (a1 := ?_) 1 rfl (by kernel_rfl) (.inl ⟨rfl, rfl⟩) rfl rfl rfl (fun x K hK => ?_) ?_
  rotate_left
  ·go_big_quiet_op
   exact hK
  refine hoist [] [] (a1 := ?_) 2 rfl (by kernel_rfl) (.inl ⟨rfl, rfl⟩) rfl rfl rfl (fun x K hK => ?_) ?_
  rotate_left
  ·go_big_quiet_op
   exact hK
  refine hoist [] [] (a1 := ?_) 3 rfl (by kernel_rfl) (.inl ⟨rfl, rfl⟩) rfl rfl rfl (fun x K hK => ?_) ?_
  rotate_left
  ·go_big_quiet_op
   exact hK
  refine hoist [] [] (a1 := ?_) 4 rfl (by kernel_rfl) (.inl ⟨rfl, rfl⟩) rfl rfl rfl (fun x K hK => ?_) ?_
  rotate_left
  ·go_big_quiet_op
   exact hK
  refine hoist [] [] (a1 := ?_) 5 rfl (by kernel_rfl) (.inl ⟨rfl, rfl⟩) rfl rfl rfl (fun x K hK => ?_) ?_
  rotate_left
  ·go_big_quiet_op
   exact hK
  refine hoist [] [] (a1 := ?_) 6 rfl (by kernel_rfl) (.inl ⟨rfl, rfl⟩) rfl rfl rfl (fun x K hK => ?_) ?_
  rotate_left
  ·go_big_quiet_op
   exact hK
  refine hoist [] [] (a1 := ?_) 7 rfl (by kernel_rfl) (.inl ⟨rfl, rfl⟩) rfl rfl rfl (fun x K hK => ?_) ?_
  rotate_left
  ·go_big_quiet_op
   exact hK
  refine hoist [] [] (a1 := ?_) 8 rfl (by kernel_rfl) (.inl ⟨rfl, rfl⟩) rfl rfl rfl (fun x K hK => ?_) ?_
  rotate_left
  ·go_big_quiet_op
   exact hK
  refine done (by kernel_rfl) (fun xr => ?_)
  have H3 := Lib.hid (H2.out.bw xr.bw)
  have T3 := Lib.hid (T2.out.trans (xr.bw.still [b]))
  clear l1 l2
  go_wp2_with fail
  go_end0
  rw [hg.out, if_neg (by omega)]
  exact ⟨rfl, H3.out, T3.out⟩
end Go.Proofs.Ytojedpahaifjgaa

namespace Go.Proofs.Ytojedpahaifjgaa
open Go.RowKit
def idxO (h s : Int) : Int := if 32768 < (s - h) % 65536 then (s - h) % 65536 - 65536 else (s - h) % 65536
def idxN (h s : Int) : Int := if h < 0 then s else if h + idxO h s < 0 then h + idxO h s + 65536 else h + idxO h s
theorem idxO_eq {h s i : Int} (h1 : (i - s) % 65536 = 0) (h2 : i ≤ h + 32768) (h3 : h - 32767 ≤ i) : h + idxO h s = i := by
 unfold idxO
 split <;> omega
set_option maxRecDepth 100000 in
set_option maxHeartbeats 8000000 in
theorem ridx_any (h s : Int) (hh : h ≤ 1152921504606846976) (hs : 0 ≤ s ∧ s ≤ 65535) (w : World) :
  Calls Try.prog 55 #[.int .i64 h, .int .u16 s] w fun e w' => e = .returned (.int .i64 (idxN h s)) ∧ w' = w := by
 have es : wrap64 s = s := IntWalk.wrap64_in _ (by omega)
 obtain ⟨r, hr⟩ : ∃ r, idxN h s = r := ⟨_, rfl⟩
 rw [hr]
 by_cases h0 : h < 0
 ·have d : decide (h < 0) = true := by simpa using h0
  have e : s = r := by rw [← hr]; unfold idxN; rw [if_pos h0]
  replace hr := Lib.hid hr
  replace e := Lib.hid e
  go_enter Try.func55, Try.ntmps55
  go_wp2_with fail
  go_ret
  exact ⟨by rw [e.out]; rfl, rfl⟩
 have d : decide (h < 0) = false := by simpa using h0
 have et : h.tdiv 65536 = h / 65536 := Int.tdiv_eq_ediv_of_nonneg (by omega)
 have e : Hid ((if h + idxO h s < 0 then h + idxO h s + 65536 else h + idxO h s) = r) := Lib.hid (by rw [← hr]; unfold idxN; rw [if_neg h0])
 have hq : 0 ≤ h / 65536 * 65536 ∧ h / 65536 * 65536 ≤ h ∧ h ≤ h / 65536 * 65536 + 65535 := by omega
 have hm : (h / 65536 * 65536 + s - s) % 65536 = 0 := by omega
 generalize h / 65536 = q at *
 replace hm := Lib.hid hm
 replace hr := Lib.hid hr
 go_enter Try.func55, Try.ntmps55
 go_upto_region 4 with (fail)
 go_loopg [5] (q * 65536 + s - (h - 65535)).toNat (fun m' iv wx => ∃ i : Int, m' = (i - (h - 65535)).toNat ∧ iv = .int .i64 i ∧ Hid ((i - s) % 65536 = 0) ∧ h - 65535 ≤ i ∧ i ≤ h + 65535 ∧ Hid (w = wx))
 case atStart => exact ⟨q * 65536 + s, rfl, rfl, hm, by omega, by omega, rfl⟩
 case round =>
  clear hm hq et
  obtain ⟨i, rfl, rfl, hi, hi1, hi2, hw⟩ := hrel
  obtain rfl := hw.out
  by_cases c : h + 32768 < i
  ·have d1 : decide (h + 32768 < i) = true := by simpa using c
   go_wp2_with fail
   go_roundg (i - 65536 - (h - 65535)).toNat
   case measure => omega
   case rel => exact ⟨i - 65536, rfl, rfl, Lib.hid (by have := hi.out; omega), by omega, by omega, Lib.hid rfl⟩
  ·have d1 : decide (h + 32768 < i) = false := by simpa using c
   go_upto_region 6 with (fail)
   go_loopg [5] (h + 32768 - i).toNat (fun m' iv wx => ∃ i2 : Int, m' = (h + 32768 - i2).toNat ∧ iv = .int .i64 i2 ∧ Hid ((i2 - s) % 65536 = 0) ∧ h - 65535 ≤ i2 ∧ i2 ≤ h + 32768 ∧ Hid (w = wx))
   case atStart => exact ⟨i, rfl, rfl, hi, by omega, by omega, Lib.hid rfl⟩
   case round =>
    clear hi hi1 hi2 c d1
    obtain ⟨j, rfl, rfl, hj, hj1, hj2, hw⟩ := hrel
    obtain rfl := hw.out
    by_cases c2 : j < h - 32767
    ·have d2 : decide (j < h - 32767) = true := by simpa using c2
     go_wp2_with fail
     go_roundg (h + 32768 - (j + 65536)).toNat
     case measure => omega
     case rel => exact ⟨j + 65536, rfl, rfl, Lib.hid (by have := hj.out; omega), by omega, by omega, Lib.hid rfl⟩
    ·have d2 : decide (j < h - 32767) = false := by simpa using c2
     have e2 := idxO_eq hj.out hj2 (by omega)
     replace e := e.out
     rw [e2] at e
     by_cases c3 : j < 0
     ·have d3 : decide (j < 0) = true := by simpa using c3
      rw [if_pos c3] at e
      replace e := Lib.hid e
      clear e2
      go_wp2_with fail
      go_ret
      exact ⟨by rw [← e.out]; rfl, rfl⟩
     ·have d3 : decide (j < 0) = false := by simpa using c3
      rw [if_neg c3] at e
      replace e := Lib.hid e
      clear e2
      go_wp2_with fail
      go_ret
      exact ⟨by rw [← e.out]; rfl, rfl⟩
end Go.Proofs.Ytojedpahaifjgaa

namespace Go.Proofs.Ytojedpahaifjgaa
open Go.RowKit
set_option maxRecDepth 100000 in
set_option maxHeartbeats 8000000 in
theorem seqp_any (i : Int) (w : World) : Calls Try.prog 41 #[.int .i64 i] w fun e w' => e = .returned (.int .u16 (IntKind.u16.wrap i)) ∧ w' = w := by
 go_enter Try.func41, Try.ntmps41
 go_wp2_with fail
 go_ret
 exact ⟨rfl, rfl⟩
set_option maxRecDepth 100000 in
set_option maxHeartbeats 8000000 in
theorem pidx_any (h s : Int) (hh : h ≤ 1152921504606846976) (hs : 0 ≤ s ∧ s ≤ 65535) (w : World) :
  Calls Try.prog 47 #[.int .i64 h, .int .u16 s] w fun e w' => e = .returned (.int .i64 (idxN h s)) ∧ w' = w := by
 have es : wrap64 s = s := IntWalk.wrap64_in _ (by omega)
 obtain ⟨r, hr⟩ : ∃ r, idxN h s = r := ⟨_, rfl⟩
 rw [hr]
 by_cases h0 : h < 0
 ·have d : decide (h < 0) = true := by simpa using h0
  have e : s = r := by rw [← hr]; unfold idxN; rw [if_pos h0]
  replace hr := Lib.hid hr
  replace e := Lib.hid e
  go_enter Try.func47, Try.ntmps47
  go_wp2_with fail
  go_ret
  exact ⟨by rw [e.out]; rfl, rfl⟩
 have d : decide (h < 0) = false := by simpa using h0
 have c := Lib.hid (seqp_any h w)
 have ho : wrap64 (IntKind.u16.wrap (s - IntKind.u16.wrap h)) = (s - h) % 65536 := by
  have e1 : ∀ x, IntKind.u16.wrap x = x % 65536 := fun x => by simp [IntKind.wrap, IntKind.bits, IntKind.signed]
  rw [e1, e1, IntWalk.wrap64_in _ (by omega)]
  omega
 have hr2 : r = if h + idxO h s < 0 then h + idxO h s + 65536 else h + idxO h s := by rw [← hr]; unfold idxN; rw [if_neg h0]
 unfold idxO at hr2
 have hoB : 0 ≤ (s - h) % 65536 ∧ (s - h) % 65536 ≤ 65535 := by omega
 rw [← ho] at hr2 hoB
 generalize IntKind.u16.wrap h = sh at *
 replace hoB := Lib.hid hoB
 replace hr2 := Lib.hid hr2
 replace ho := Lib.hid ho
 replace hr := Lib.hid hr
 go_enter Try.func47, Try.ntmps47
 go_wp2_with fail
 refine c.out.mono ?_
 rintro e w1 ⟨rfl, rfl⟩
 dsimp only
 go_upto_region 4 with (fail)
 generalize wrap64 (IntKind.u16.wrap (s - sh)) = off at *
 have hob := hoB.out
 generalize IntKind.u16.wrap (s - sh) = q1 at *
 clear hoB c ho
 by_cases c1 : 32768 < off
 ·have d1 : decide (32768 < off) = true := by simpa using c1
  have e1 : wrap64 (off - 65536) = off - 65536 := IntWalk.wrap64_in _ (by omega)
  replace hr2 := hr2.out
  rw [if_pos c1] at hr2
  by_cases c2 : h + (off - 65536) < 0
  ·have d2 : decide (h + (off - 65536) < 0) = true := by simpa using c2
   rw [if_pos c2] at hr2
   replace hr2 := Lib.hid hr2
   go_wp2_with fail
   go_ret
   exact ⟨by rw [show r = h + off by rw [hr2.out]; omega]; rfl, rfl⟩
  ·have d2 : decide (h + (off - 65536) < 0) = false := by simpa using c2
   rw [if_neg c2] at hr2
   replace hr2 := Lib.hid hr2
   go_wp2_with fail
   go_ret
   exact ⟨by rw [hr2.out]; rfl, rfl⟩
 ·have d1 : decide (32768 < off) = false := by simpa using c1
  have d2 : decide (h + off < 0) = false := by simp; omega
  replace hr2 := hr2.out
  rw [if_neg c1, if_neg (by omega)] at hr2
  replace hr2 := Lib.hid hr2
  go_wp2_with fail
  go_ret
  exact ⟨by rw [hr2.out]; rfl, rfl⟩
end Go.Proofs.Ytojedpahaifjgaa

namespace Go.Proofs.Ytojedpahaifjgaa
open Go.RowKit
def mayE (codec many pk by_ : Int) : Bool := decide (0 ≤ codec ∧ codec ≤ 2 ∧ 1 ≤ many ∧ many ≤ 4 ∧ 1 ≤ pk ∧ 0 ≤ by_)
set_option maxRecDepth 100000 in
set_option maxHeartbeats 8000000 in
theorem mayE_any (codec many l0 l1 l2 l3 l4 l5 pk by_ again : Int) (w : World) :
  Calls Try.prog 18 #[.int .i64 codec, .int .i64 many, .agg #[.int .i64 l0, .int .i64 l1, .int .i64 l2, .int .i64 l3, .int .i64 l4, .int .i64 l5, .int .i64 pk, .int .i64 by_, .int .u64 again]] w fun e w' => e = .returned (.bool (mayE codec many pk by_)) ∧ BW w w' := by
 obtain ⟨r, hr⟩ : ∃ r, mayE codec many pk by_ = r := ⟨_, rfl⟩
 rw [hr]
 unfold mayE at hr
 have BA : BW w (w.alloc (.cells #[.int .i64 l0, .int .i64 l1, .int .i64 l2, .int .i64 l3, .int .i64 l4, .int .i64 l5, .int .i64 pk, .int .i64 by_, .int .u64 again] 31)) := (BW.refl w).alloc
 have X := Lib.hid (HpB.new w (.cells #[.int .i64 l0, .int .i64 l1, .int .i64 l2, .int .i64 l3, .int .i64 l4, .int .i64 l5, .int .i64 pk, .int .i64 by_, .int .u64 again] 31))
 replace BA := Lib.hid BA
 replace hr := Lib.hid hr
 go_enter Try.func18, Try.ntmps18
 go_upto_region 1 with (fail)
 generalize w.alloc _ = w1 at *
 generalize w.heap.size = gx at *
 have z6 := (hp_cell X.out 6).trans (show _ = some (.int .i64 pk) from rfl)
 have z7 := (hp_cell X.out 7).trans (show _ = some (.int .i64 by_) from rfl)
 by_cases c0 : 0 ≤ codec
 ·have d0 : decide (0 ≤ codec) = true := decide_eq_true c0
  by_cases c1 : codec ≤ 2
  ·have d1 : decide (codec ≤ 2) = true := decide_eq_true c1
   by_cases c2 : 1 ≤ many
   ·have d2 : decide (1 ≤ many) = true := decide_eq_true c2
    by_cases c3 : many ≤ 4
    ·have d3 : decide (many ≤ 4) = true := decide_eq_true c3
     by_cases c4 : 1 ≤ pk
     ·have d4 : decide (1 ≤ pk) = true := decide_eq_true c4
      by_cases c5 : 0 ≤ by_
      ·have d5 : decide (0 ≤ by_) = true := decide_eq_true c5
       replace hr := hr.out
       rw [decide_eq_true ⟨c0, c1, c2, c3, c4, c5⟩] at hr
       subst hr
       clear c0
       clear c1
       clear c2
       clear c3
       clear c4
       clear c5
       go_wp2_with fail
       go_ret
       exact ⟨rfl, BA.out⟩
      ·have d5 : decide (0 ≤ by_) = false := decide_eq_false c5
       replace hr := hr.out
       rw [decide_eq_false (fun h => c5 h.2.2.2.2.2)] at hr
       subst hr
       clear c0
       clear c1
       clear c2
       clear c3
       clear c4
       clear c5
       go_wp2_with fail
       go_ret
       exact ⟨rfl, BA.out⟩
     ·have d4 : decide (1 ≤ pk) = false := decide_eq_false c4
      replace hr := hr.out
      rw [decide_eq_false (fun h => c4 h.2.2.2.2.1)] at hr
      subst hr
      clear c0
      clear c1
      clear c2
      clear c3
      clear c4
      go_wp2_with fail
      go_ret
      exact ⟨rfl, BA.out⟩
    ·have d3 : decide (many ≤ 4) = false := decide_eq_false c3
     replace hr := hr.out
     rw [decide_eq_false (fun h => c3 h.2.2.2.1)] at hr
     subst hr
     clear c0
     clear c1
     clear c2
     clear c3
     go_wp2_with fail
     go_ret
     exact ⟨rfl, BA.out⟩
   ·have d2 : decide (1 ≤ many) = false := decide_eq_false c2
    replace hr := hr.out
    rw [decide_eq_false (fun h => c2 h.2.2.1)] at hr
    subst hr
    clear c0
    clear c1
    clear c2
    go_wp2_with fail
    go_ret
    exact ⟨rfl, BA.out⟩
  ·have d1 : decide (codec ≤ 2) = false := decide_eq_false c1
   replace hr := hr.out
   rw [decide_eq_false (fun h => c1 h.2.1)] at hr
   subst hr
   clear c0
   clear c1
   go_wp2_with fail
   go_ret
   exact ⟨rfl, BA.out⟩
 ·have d0 : decide (0 ≤ codec) = false := decide_eq_false c0
  replace hr := hr.out
  rw [decide_eq_false (fun h => c0 h.1)] at hr
  subst hr
  clear c0
  go_wp2_with fail
  go_ret
  exact ⟨rfl, BA.out⟩
end Go.Proofs.Ytojedpahaifjgaa
