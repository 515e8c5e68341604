/-  -/
import Derived.Test.YtojedpahaifjgaaVpA
import Derived.Deep.DeepCutAuto
import Derived.BigQuiet
namespace Go.Proofs.Ytojedpahaifjgaa
open Go.RowKit
def vpW (w : World) (s : Value) (v : Array Value) (er : Int) (at_ : Int) : World :=
 (((w.alloc (.cells #[s] 34)).alloc (.cells v 65)).alloc (.cells #[.int .i64 er] 43)).alloc (.cells #[.int .i64 at_] 3)
theorem vp_below (w : World) (s : Value) (v : Array Value) (er : Int) (at_ : Int) : Below w.heap.size w (vpW w s v er at_) := by
 unfold vpW
 exact ((((Below.refl _ _).alloc (Nat.le_refl _) _).alloc (by simp) _).alloc (by simp; omega) _).alloc (by simp; omega) _
theorem vp_next (l : List Int) (sa : Option Addr) (ln cp at_ : Nat) (v : Array Value) (z er : Int) (w : World) (hl : SlB w sa ln cp l) :
  Calls Try.prog 89 #[.int .u8 z, .pointer (some ⟨w.heap.size + 1 + 1, 0, none⟩), .pointer (some ⟨w.heap.size + 1 + 1 + 1, 0, none⟩), .pointer (some ⟨w.heap.size, 0, none⟩)]
   ((((w.alloc (.cells #[.slice sa ln cp] 34)).alloc (.cells v 65)).alloc (.cells #[.int .i64 er] 43)).alloc (.cells #[.int .i64 at_] 3)) fun r w' =>
   r = .returned (.int .u8 (nx l er at_ z).2.2) ∧ w' = ((((w.alloc (.cells #[.slice sa ln cp] 34)).alloc (.cells v 65)).alloc (.cells #[.int .i64 (nx l er at_ z).1] 43)).alloc (.cells #[.int .i64 ((nx l er at_ z).2.1 : Nat)] 3)) := by
 have hb := hl.below (vp_below w (.slice sa ln cp) v er at_)
 unfold vpW at hb
 refine (next_any l sa ln cp at_ z er _ _ _ _ hb (fun b o hs h0 => ?_) (by omega) (by omega) (by simp [go_sem]) (by simp [go_sem]) (by simp [go_sem]) (by simp [go_sem]) (by simp [go_sem])).mono ?_
 ·obtain ⟨_, _, _, _, h5⟩ := hl
  rcases h5 with h5 | ⟨b', o', hs', hlt, _⟩
  ·omega
  ·rw [hs] at hs'; cases hs'; omega
 ·rintro r w' ⟨hr, hw⟩
  refine ⟨hr, ?_⟩
  rw [hw]
  simp [go_sem]
def vB (l : List Int) (x : Int × Nat × Int) : Int × Nat × Int := if bits .and .u8 x.2.2 128 ≠ 0 then nx l x.1 x.2.1 15 else (x.1, x.2.1, 0)
def vC (l : List Int) (x : Int × Nat × Int) (pic : Int → Int → Int) : (Int × Nat) × Int × Bool × Bool × Int :=
 if bits .and .u8 x.2.2 128 ≠ 0 then
  if bits .and .u8 (nx l x.1 x.2.1 0).2.2 128 ≠ 0 then
   (((nx l (nx l x.1 x.2.1 0).1 (nx l x.1 x.2.1 0).2.1 0).1, (nx l (nx l x.1 x.2.1 0).1 (nx l x.1 x.2.1 0).2.1 0).2.1), (x.2.1 : Nat), true, true, pic (nx l x.1 x.2.1 0).2.2 (nx l (nx l x.1 x.2.1 0).1 (nx l x.1 x.2.1 0).2.1 0).2.2)
  else (((nx l x.1 x.2.1 0).1, (nx l x.1 x.2.1 0).2.1), (x.2.1 : Nat), true, false, IntKind.u16.wrap (nx l x.1 x.2.1 0).2.2)
 else ((x.1, x.2.1), 0, false, false, 0)
def picN (n m : Int) : Int := bits .or .u16 (IntKind.u16.wrap (IntKind.u16.wrap (bits .andNot .u8 n 128) * 256)) (IntKind.u16.wrap m)
def stepD (l : List Int) (s : Int) (x : Int × Nat) : Nat → Int × Nat
 | 0 => x
 | j + 1 => if bits .and .u8 s (if j = 0 then 64 else 48) ≠ 0 then ((nx l (stepD l s x j).1 (stepD l s x j).2 0).1, (nx l (stepD l s x j).1 (stepD l s x j).2 0).2.1) else stepD l s x j
def vpKey (l : List Int) (f : Int) (a : Nat) : Bool := (bits .and .u8 f 16 != 0) && (bits .and .u8 f 7 == 0) && decide (a < l.length) && (bits .and .u8 (l.getD a 0) 1 == 0)
def vpFin (l : List Int) (f : Int) (C : (Int × Nat) × Int × Bool × Bool × Int) (D : Int × Nat) : Array Value × Int × Int :=
 if D.1 ≠ 0 then (#[.bool false, .int .u8 0, .bool false, .bool false, .int .u16 0, .bool false, .int .i64 0], 0, D.1)
 else (#[.bool (bits .and .u8 f 16 != 0), .int .u8 (bits .and .u8 f 7), .bool C.2.2.1, .bool C.2.2.2.1, .int .u16 C.2.2.2.2, .bool (vpKey l f D.2), .int .i64 (D.2 : Nat)], C.2.1, 0)
def vpOut (l : List Int) : Array Value × Int × Int :=
 vpFin l (nx l 0 0 72).2.2 (vC l (vB l (nx l 0 0 72)) picN) (stepD l (vB l (nx l 0 0 72)).2.2 (vC l (vB l (nx l 0 0 72)) picN).1 2)
theorem vpOut_eq {l : List Int} {e1 e2 e3 er f1 f2 pl pc : Int} {a1 a2 a3 a : Nat} {hs wd : Bool} (h1 : nx l 0 0 72 = (e1, a1, f1)) (h2 : (e2, a2, f2) = vB l (e1, a1, f1)) (h3 : ((e3, a3), pl, hs, wd, pc) = vC l (e2, a2, f2) picN) (h4 : (er, a) = stepD l f2 (e3, a3) 2) :
  vpOut l = vpFin l f1 ((e3, a3), pl, hs, wd, pc) (er, a) := by
 unfold vpOut; rw [h1, ← h2, ← h3, h4]
set_option maxRecDepth 100000 in
set_option maxHeartbeats 4000000 in
theorem read_any (l : List Int) (sa : Option Addr) (ln cp : Nat) (w : World) (hl : SlB w sa ln cp l) :
  Calls Try.prog 76 #[.slice sa ln cp] w fun r w' => r = .returned (.tuple #[.agg (vpOut l).1, .int .i64 (vpOut l).2.1, .int .i64 (vpOut l).2.2]) ∧ Below w.heap.size w w' := by
 replace hl := Lib.hid hl
 have i0 : ∀ w, (Instr.index 166 (.agg #[.int .u8 64, .int .u8 48]) (.int .i64 0)).run Try.prog w = .ok (.int .u8 64) w := fun _ => by kernel_rfl
 have i1 : ∀ w, (Instr.index 166 (.agg #[.int .u8 64, .int .u8 48]) (.int .i64 1)).run Try.prog w = .ok (.int .u8 48) w := fun _ => by kernel_rfl
 go_enter Try.func76, Try.ntmps76
 go_wp2_with fail
 refine (vp_next l sa ln cp 0 _ 72 0 w hl.out).mono ?_
 rintro r w1 ⟨rfl, rfl⟩
 generalize h1 : nx l 0 0 72 = A
 obtain ⟨e1, a1, f1⟩ := A
 replace h1 := Lib.hid h1
 dsimp only
 go_upto_if 24 with (fail)
 go_cut [8] (fun s wc => ∃ e2 a2 f2, Hid ((e2, a2, f2) = vB l (e1, a1, f1)) ∧ s = .int .u8 f2 ∧ wc = ((((w.alloc (.cells #[.slice sa ln cp] 34)).alloc (.cells #[.bool (bits .and .u8 f1 16 != 0), .int .u8 (bits .and .u8 f1 7), .bool false, .bool false, .int .u16 0, .bool false, .int .i64 0] 65)).alloc (.cells #[.int .i64 e2] 43)).alloc (.cells #[.int .i64 (a2 : Nat)] 3)))
 case first =>
  by_cases hb : (bits .and .u8 f1 128 != 0) = true
  ·go_wp2_with fail
   refine (vp_next l sa ln cp a1 _ 15 e1 w hl.out).mono ?_
   rintro r w1 ⟨rfl, rfl⟩
   go_wp2_with fail
   go_meet
   exact ⟨_, _, _, Lib.hid (by unfold vB; rw [if_pos (by simpa using hb)]), rfl, rfl⟩
  ·replace hb : (bits .and .u8 f1 128 != 0) = false := by simpa using hb
   go_wp2_with fail
   go_meet
   exact ⟨_, _, _, Lib.hid (by unfold vB; rw [if_neg (by simpa using hb)]), rfl, rfl⟩
 case rest =>
  obtain ⟨e2, a2, f2, h2, rfl, rfl⟩ := hcut
  go_upto_if 29 with (fail)
  go_cut [3, 9] (fun s3 s9 wc => ∃ e3 a3 pl hs wd pc, Hid (((e3, a3), pl, hs, wd, pc) = vC l (e2, a2, f2) picN) ∧ s3 = .int .i64 pl ∧ wc = ((((w.alloc (.cells #[.slice sa ln cp] 34)).alloc (.cells #[.bool (bits .and .u8 f1 16 != 0), .int .u8 (bits .and .u8 f1 7), .bool hs, .bool wd, .int .u16 pc, .bool false, .int .i64 0] 65)).alloc (.cells #[.int .i64 e3] 43)).alloc (.cells #[.int .i64 (a3 : Nat)] 3)))
  case first =>
   by_cases hb : (bits .and .u8 f2 128 != 0) = true
   ·go_wp2_with fail
    refine (vp_next l sa ln cp a2 _ 0 e2 w hl.out).mono ?_
    rintro r w1 ⟨rfl, rfl⟩
    generalize hN : nx l e2 a2 0 = N
    obtain ⟨e3, a3, n3⟩ := N
    replace hN := Lib.hid hN
    dsimp only
    by_cases hb3 : (bits .and .u8 n3 128 != 0) = true
    ·go_wp2_with fail
     refine (vp_next l sa ln cp a3 _ 0 e3 w hl.out).mono ?_
     rintro r w1 ⟨rfl, rfl⟩
     go_wp2_with fail
     go_meet
     exact ⟨_, _, _, _, _, _, Lib.hid (by unfold vC; rw [if_pos (by simpa using hb)]; simp only [hN.out]; rw [if_pos (by simpa using hb3)]; rfl), rfl, rfl⟩
    ·replace hb3 : (bits .and .u8 n3 128 != 0) = false := by simpa using hb3
     go_wp2_with fail
     go_meet
     exact ⟨_, _, _, _, _, _, Lib.hid (by unfold vC; rw [if_pos (by simpa using hb)]; simp only [hN.out]; rw [if_neg (by simpa using hb3)]), rfl, rfl⟩
   ·replace hb : (bits .and .u8 f2 128 != 0) = false := by simpa using hb
    go_wp2_with fail
    go_meet
    exact ⟨_, _, _, _, _, _, Lib.hid (by unfold vC; rw [if_neg (by simpa using hb)]), rfl, rfl⟩
  case rest =>
   obtain ⟨e3, a3, pl, hs, wd, pc, h3, rfl, rfl⟩ := hcut
   go_wp2_with fail
   go_loopw [53] (fun i wx => ∃ j, j ≤ 2 ∧ i = .int .i64 (j : Nat) ∧ ∃ er a, Hid ((er, a) = stepD l f2 (e3, a3) j) ∧ wx = ((((w.alloc (.cells #[.slice sa ln cp] 34)).alloc (.cells #[.bool (bits .and .u8 f1 16 != 0), .int .u8 (bits .and .u8 f1 7), .bool hs, .bool wd, .int .u16 pc, .bool false, .int .i64 0] 65)).alloc (.cells #[.int .i64 er] 43)).alloc (.cells #[.int .i64 (a : Nat)] 3))) (fun i _ => (2 - intOf i).toNat)
   case atStart => exact ⟨0, by omega, rfl, e3, a3, Lib.hid rfl, rfl⟩
   case round =>
    obtain ⟨j, hj, rfl, er, a, h4, rfl⟩ := hrel
    by_cases hj2 : j < 2
    ·obtain rfl | rfl : j = 0 ∨ j = 1 := by omega
     ·by_cases hb : (bits .and .u8 f2 64 != 0) = true
      ·go_wp2_with fail
       refine (vp_next l sa ln cp a _ 0 er w hl.out).mono ?_
       rintro r w1 ⟨rfl, rfl⟩
       go_wp2_with fail
       go_roundw
       case rel => exact ⟨1, by omega, by go_num, _, _, Lib.hid (by rw [stepD]; rw [if_pos (by simpa using hb)]; simp only [← h4.out]), rfl⟩
       case measure => simp [intOf]
      ·replace hb : (bits .and .u8 f2 64 != 0) = false := by simpa using hb
       go_wp2_with fail
       go_roundw
       case rel => exact ⟨1, by omega, by go_num, _, _, Lib.hid (by rw [stepD]; rw [if_neg (by simpa using hb)]; exact h4.out), rfl⟩
       case measure => simp [intOf]
     ·by_cases hb : (bits .and .u8 f2 48 != 0) = true
      ·go_wp2_with fail
       refine (vp_next l sa ln cp a _ 0 er w hl.out).mono ?_
       rintro r w1 ⟨rfl, rfl⟩
       go_wp2_with fail
       go_roundw
       case rel => exact ⟨2, by omega, by go_num, _, _, Lib.hid (by rw [stepD]; rw [if_pos (by simpa using hb)]; simp only [← h4.out]), rfl⟩
       case measure => simp [intOf]
      ·replace hb : (bits .and .u8 f2 48 != 0) = false := by simpa using hb
       go_wp2_with fail
       go_roundw
       case rel => exact ⟨2, by omega, by go_num, _, _, Lib.hid (by rw [stepD]; rw [if_neg (by simpa using hb)]; exact h4.out), rfl⟩
       case measure => simp [intOf]
    ·obtain rfl : j = 2 := by omega
     by_cases he : (er != 0) = true
     ·go_wp2_with fail
      have hfin : Hid (vpOut l = vpFin l f1 ((e3, a3), pl, hs, wd, pc) (er, a)) := vpOut_eq h1.out h2.out h3.out h4.out
      go_region
      all_goals go_wp2_with fail
      all_goals rw [hfin.out]
      all_goals unfold vpFin
      all_goals rw [if_pos (by simpa using he)]
      all_goals exact bodyPost_ret (v := .tuple #[.agg #[.bool false, .int .u8 0, .bool false, .bool false, .int .u16 0, .bool false, .int .i64 0], .int .i64 0, .int .i64 er]) (by simp [results, Try.results76, go_sem]) rfl ⟨rfl, by first | exact (vp_below _ _ _ _ _).drew | exact vp_below _ _ _ _ _⟩
     ·replace he : (er != 0) = false := by simpa using he
      have hfin : Hid (vpOut l = vpFin l f1 ((e3, a3), pl, hs, wd, pc) (er, a)) := vpOut_eq h1.out h2.out h3.out h4.out
      by_cases hal : a < ln
      ·obtain ⟨hln, _, _, _, h5⟩ := hl.out
       rcases h5 with h5 | ⟨b, o, rfl, hlt, hc⟩
       ·omega
       have hx := hc a hal
       have hln' := hl.out.len
       have hlt1 : b < w.heap.size + 1 := by omega
       have hlt2 : b < w.heap.size + 1 + 1 := by omega
       have hlt3 : b < w.heap.size + 1 + 1 + 1 := by omega
       replace hln := Lib.hid hln
       have hkey : Hid (vpKey l f1 a = ((bits .and .u8 f1 16 != 0) && (bits .and .u8 f1 7 == 0) && (bits .and .u8 (l.getD a 0) 1 == 0))) := by
        have := hln.out
        unfold vpKey; rw [show decide (a < l.length) = true by simp; omega]; simp [Hid]
       clear hc
       generalize l.getD a 0 = x at *
       go_wp2_with fail
       all_goals rw [hfin.out]
       all_goals unfold vpFin
       all_goals rw [if_neg (by simpa using he), hkey.out]
       all_goals exact bodyPost_ret (v := .tuple #[.agg #[.bool (bits .and .u8 f1 16 != 0), .int .u8 (bits .and .u8 f1 7), .bool hs, .bool wd, .int .u16 pc, .bool ((bits .and .u8 f1 16 != 0) && (bits .and .u8 f1 7 == 0) && (bits .and .u8 x 1 == 0)), .int .i64 a], .int .i64 pl, .int .i64 0]) (by clear hkey hfin h1 h2 h3 h4 hl i0 i1; simp [results, Try.results76, go_sem, *]) rfl ⟨rfl, vp_below _ _ _ _ _⟩
      ·have hkey : Hid (vpKey l f1 a = false) := by
        have := hl.out.1
        unfold vpKey; rw [show decide (a < l.length) = false by simp; omega]; simp [Hid]
       go_wp2_with fail
       all_goals rw [hfin.out]
       all_goals unfold vpFin
       all_goals rw [if_neg (by simpa using he), hkey.out]
       all_goals exact bodyPost_ret (v := .tuple #[.agg #[.bool (bits .and .u8 f1 16 != 0), .int .u8 (bits .and .u8 f1 7), .bool hs, .bool wd, .int .u16 pc, .bool false, .int .i64 a], .int .i64 pl, .int .i64 0]) (by clear hkey hfin h1 h2 h3 h4 hl i0 i1; simp [results, Try.results76, go_sem, *]) rfl ⟨rfl, vp_below _ _ _ _ _⟩
end Go.Proofs.Ytojedpahaifjgaa
