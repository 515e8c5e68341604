/-  -/
import Derived.Test.YtojedpahaifjgaaGBa
import Derived.Deep.DeepCutAuto
import Derived.BigQuiet
import Derived.RegionTactic
namespace Go.Proofs.Ytojedpahaifjgaa
open Go.RowKit
section
variable (bb bo ln cp at_ : Nat) (x z : Int) (e a c : Nat) (w : World) (he : w.cell? ⟨e, 0, none⟩ = some (.int .i64 0)) (ha : w.cell? ⟨a, 0, none⟩ = some (.int .i64 at_)) (hb : w.cell? ⟨c, 0, none⟩ = some (.slice (some ⟨bb, bo, none⟩) ln cp))
include he ha hb
theorem next_ok (hf : w.frozen? ⟨a, 0, none⟩ = false) (hac : a ≠ c) (hal : a ≠ bb) (hl : at_ < ln) (hm : ln ≤ 9223372036854775807) (hx : w.cell? ⟨bb, bo + at_, none⟩ = some (.int .u8 x)) (hz : (bits .and .u8 x z != 0) = false) :
  Calls Try.prog 89 #[.int .u8 z, .pointer (some ⟨e, 0, none⟩), .pointer (some ⟨a, 0, none⟩), .pointer (some ⟨c, 0, none⟩)] w fun e w' => e = .returned (.int .u8 x) ∧ w' = w.setCell ⟨a, 0, none⟩ (.int .i64 (at_ + 1)) := by
 have h1 : (w.setCell ⟨a, 0, none⟩ (.int .i64 (at_ + 1))).cell? ⟨bb, bo + at_, none⟩ = some (.int .u8 x) := (World.cell?_setCell_other w _ _ _ (by simp [hal])).trans hx
 have h2 : (w.setCell ⟨a, 0, none⟩ (.int .i64 (at_ + 1))).cell? ⟨c, 0, none⟩ = some (.slice (some ⟨bb, bo, none⟩) ln cp) := (World.cell?_setCell_other w _ _ _ (by simp [hac])).trans hb
 clear hac hal
 go_enter Try.func89, Try.ntmps89
 go_wp2
 go_ret
 exact ⟨rfl, rfl⟩
theorem next_form (hf : w.frozen? ⟨e, 0, none⟩ = false) (hl : at_ < ln) (hx : w.cell? ⟨bb, bo + at_, none⟩ = some (.int .u8 x)) (hz : (bits .and .u8 x z != 0) = true) :
  Calls Try.prog 89 #[.int .u8 z, .pointer (some ⟨e, 0, none⟩), .pointer (some ⟨a, 0, none⟩), .pointer (some ⟨c, 0, none⟩)] w fun r w' => r = .returned (.int .u8 0) ∧ w' = w.setCell ⟨e, 0, none⟩ (.int .i64 3) := by
 go_enter Try.func89, Try.ntmps89
 go_wp2
 go_ret
 exact ⟨rfl, rfl⟩
omit hb
theorem next_short (s : Option Addr) (hb : w.cell? ⟨c, 0, none⟩ = some (.slice s ln cp)) (hf : w.frozen? ⟨e, 0, none⟩ = false) (hl : ln ≤ at_) :
  Calls Try.prog 89 #[.int .u8 z, .pointer (some ⟨e, 0, none⟩), .pointer (some ⟨a, 0, none⟩), .pointer (some ⟨c, 0, none⟩)] w fun r w' => r = .returned (.int .u8 0) ∧ w' = w.setCell ⟨e, 0, none⟩ (.int .i64 2) := by
 go_enter Try.func89, Try.ntmps89
 go_wp2
 go_ret
 exact ⟨rfl, rfl⟩
end
theorem next_err (z er : Int) (e a c : Nat) (w : World) (he : w.cell? ⟨e, 0, none⟩ = some (.int .i64 er)) (h : (er != 0) = true) :
  Calls Try.prog 89 #[.int .u8 z, .pointer (some ⟨e, 0, none⟩), .pointer (some ⟨a, 0, none⟩), .pointer (some ⟨c, 0, none⟩)] w fun r w' => r = .returned (.int .u8 0) ∧ w' = w := by
 go_enter Try.func89, Try.ntmps89
 go_wp2
 go_ret
 exact ⟨rfl, rfl⟩
def nx (l : List Int) (er : Int) (at_ : Nat) (z : Int) : Int × Nat × Int :=
 if er ≠ 0 then (er, at_, 0) else if l.length ≤ at_ then (2, at_, 0) else if bits .and .u8 (l.getD at_ 0) z ≠ 0 then (3, at_, 0) else (0, at_ + 1, l.getD at_ 0)
theorem next_any (l : List Int) (sa : Option Addr) (ln cp at_ : Nat) (z er : Int) (e a c : Nat) (w : World) (hl : SlB w sa ln cp l) (hle : ∀ b o, sa = some ⟨b, o, none⟩ → 0 < ln → e ≠ b ∧ a ≠ b) (hec : e ≠ a) (hac : a ≠ c)
  (he : w.cell? ⟨e, 0, none⟩ = some (.int .i64 er)) (ha : w.cell? ⟨a, 0, none⟩ = some (.int .i64 at_)) (hb : w.cell? ⟨c, 0, none⟩ = some (.slice sa ln cp))
  (hfe : w.frozen? ⟨e, 0, none⟩ = false) (hfa : w.frozen? ⟨a, 0, none⟩ = false) :
  Calls Try.prog 89 #[.int .u8 z, .pointer (some ⟨e, 0, none⟩), .pointer (some ⟨a, 0, none⟩), .pointer (some ⟨c, 0, none⟩)] w fun r w' =>
   r = .returned (.int .u8 (nx l er at_ z).2.2) ∧ w' = (w.setCell ⟨e, 0, none⟩ (.int .i64 (nx l er at_ z).1)).setCell ⟨a, 0, none⟩ (.int .i64 ((nx l er at_ z).2.1 : Nat)) := by
 have ha1 : ∀ v, (w.setCell ⟨e, 0, none⟩ v).cell? ⟨a, 0, none⟩ = some (.int .i64 at_) := fun v => (World.cell?_setCell_other w _ _ _ (by simp [hec])).trans ha
 obtain ⟨h1, h2, h3, h4, h5⟩ := hl
 unfold nx
 by_cases h : er ≠ 0
 ·rw [if_pos h]
  refine (next_err z er e a c w he (by simpa using h)).mono fun r w' ⟨hr, hw⟩ => ⟨hr, ?_⟩
  rw [hw, setCell_self he, setCell_self ha]
 rw [if_neg h]
 have h0 : er = 0 := by omega
 subst h0
 by_cases hn : l.length ≤ at_
 ·rw [if_pos hn]
  refine (next_short ln cp at_ z e a c w he ha sa hb hfe (by omega)).mono fun r w' ⟨hr, hw⟩ => ⟨hr, ?_⟩
  rw [hw]
  exact (setCell_self (ha1 _)).symm
 rw [if_neg hn]
 rcases h5 with h5 | ⟨b, o, rfl, hlt, hc⟩
 ·omega
 obtain ⟨heb, hab⟩ := hle b o rfl (by omega)
 have hx := hc at_ (by omega)
 by_cases hz : bits .and .u8 (l.getD at_ 0) z ≠ 0
 ·rw [if_pos hz]
  refine (next_form b o ln cp at_ _ z e a c w he ha hb hfe (by omega) hx (by simpa using hz)).mono fun r w' ⟨hr, hw⟩ => ⟨hr, ?_⟩
  rw [hw]
  exact (setCell_self (ha1 _)).symm
 ·rw [if_neg hz]
  refine (next_ok b o ln cp at_ _ z e a c w he ha hb hfa hac hab (by omega) (by unfold maxLen at h3; omega) hx (by simpa using hz)).mono fun r w' ⟨hr, hw⟩ => ⟨hr, ?_⟩
  rw [hw]
  dsimp only
  rw [setCell_self he]
  rfl
end Go.Proofs.Ytojedpahaifjgaa

namespace Go.Proofs.Ytojedpahaifjgaa
open Go.RowKit
def vpW (w : World) (s : Value) (v : Array Value) (er : Int) (at_ : Int) : World :=
 (((w.alloc (.cells #[s] 34)).alloc (.cells v 65)).alloc (.cells #[.int .i64 er] 43)).alloc (.cells #[.int .i64 at_] 3)
theorem vp_below (w : World) (s : Value) (v : Array Value) (er : Int) (at_ : Int) : Below w.heap.size w (vpW w s v er at_) := by
 unfold vpW
 exact ((((Below.refl _ _).alloc (Nat.le_refl _) _).alloc (by simp) _).alloc (by simp; omega) _).alloc (by simp; omega) _
theorem vp_next (l : List Int) (sa : Option Addr) (ln cp at_ : Nat) (v : Array Value) (z er : Int) (w : World) (hl : SlB w sa ln cp l) :
  Calls Try.prog 89 #[.int .u8 z, .pointer (some ⟨w.heap.size + 1 + 1, 0, none⟩), .pointer (some ⟨w.heap.size + 1 + 1 + 1, 0, none⟩), .pointer (some ⟨w.heap.size, 0, none⟩)]
   ((((w.alloc (.cells #[.slice sa ln cp] 34)).alloc (.cells v 65)).alloc (.cells #[.int .i64 er] 43)).alloc (.cells #[.int .i64 at_] 3)) fun r w' =>
   r = .returned (.int .u8 (nx l er at_ z).2.2) ∧ w' = ((((w.alloc (.cells #[.slice sa ln cp] 34)).alloc (.cells v 65)).alloc (.cells #[.int .i64 (nx l er at_ z).1] 43)).alloc (.cells #[.int .i64 ((nx l er at_ z).2.1 : Nat)] 3)) := by
 have hb := hl.below (vp_below w (.slice sa ln cp) v er at_)
 unfold vpW at hb
 refine (next_any l sa ln cp at_ z er _ _ _ _ hb (fun b o hs h0 => ?_) (by omega) (by omega) (by simp [go_sem]) (by simp [go_sem]) (by simp [go_sem]) (by simp [go_sem]) (by simp [go_sem])).mono ?_
 ·obtain ⟨_, _, _, _, h5⟩ := hl
  rcases h5 with h5 | ⟨b', o', hs', hlt, _⟩
  ·omega
  ·rw [hs] at hs'; cases hs'; omega
 ·rintro r w' ⟨hr, hw⟩
  refine ⟨hr, ?_⟩
  rw [hw]
  simp [go_sem]
def vB (l : List Int) (x : Int × Nat × Int) : Int × Nat × Int := if bits .and .u8 x.2.2 128 ≠ 0 then nx l x.1 x.2.1 15 else (x.1, x.2.1, 0)
def vC (l : List Int) (x : Int × Nat × Int) (pic : Int → Int → Int) : (Int × Nat) × Int × Bool × Bool × Int :=
 if bits .and .u8 x.2.2 128 ≠ 0 then
  if bits .and .u8 (nx l x.1 x.2.1 0).2.2 128 ≠ 0 then
   (((nx l (nx l x.1 x.2.1 0).1 (nx l x.1 x.2.1 0).2.1 0).1, (nx l (nx l x.1 x.2.1 0).1 (nx l x.1 x.2.1 0).2.1 0).2.1), (x.2.1 : Nat), true, true, pic (nx l x.1 x.2.1 0).2.2 (nx l (nx l x.1 x.2.1 0).1 (nx l x.1 x.2.1 0).2.1 0).2.2)
  else (((nx l x.1 x.2.1 0).1, (nx l x.1 x.2.1 0).2.1), (x.2.1 : Nat), true, false, IntKind.u16.wrap (nx l x.1 x.2.1 0).2.2)
 else ((x.1, x.2.1), 0, false, false, 0)
def picN (n m : Int) : Int := bits .or .u16 (IntKind.u16.wrap (IntKind.u16.wrap (bits .andNot .u8 n 128) * 256)) (IntKind.u16.wrap m)
def stepD (l : List Int) (s : Int) (x : Int × Nat) : Nat → Int × Nat
 | 0 => x
 | j + 1 => if bits .and .u8 s (if j = 0 then 64 else 48) ≠ 0 then ((nx l (stepD l s x j).1 (stepD l s x j).2 0).1, (nx l (stepD l s x j).1 (stepD l s x j).2 0).2.1) else stepD l s x j
def vpKey (l : List Int) (f : Int) (a : Nat) : Bool := (bits .and .u8 f 16 != 0) && (bits .and .u8 f 7 == 0) && decide (a < l.length) && (bits .and .u8 (l.getD a 0) 1 == 0)
def vpFin (l : List Int) (f : Int) (C : (Int × Nat) × Int × Bool × Bool × Int) (D : Int × Nat) : Array Value × Int × Int :=
 if D.1 ≠ 0 then (#[.bool false, .int .u8 0, .bool false, .bool false, .int .u16 0, .bool false, .int .i64 0], 0, D.1)
 else (#[.bool (bits .and .u8 f 16 != 0), .int .u8 (bits .and .u8 f 7), .bool C.2.2.1, .bool C.2.2.2.1, .int .u16 C.2.2.2.2, .bool (vpKey l f D.2), .int .i64 (D.2 : Nat)], C.2.1, 0)
def vpOut (l : List Int) : Array Value × Int × Int :=
 vpFin l (nx l 0 0 72).2.2 (vC l (vB l (nx l 0 0 72)) picN) (stepD l (vB l (nx l 0 0 72)).2.2 (vC l (vB l (nx l 0 0 72)) picN).1 2)
theorem vpOut_eq {l : List Int} {e1 e2 e3 er f1 f2 pl pc : Int} {a1 a2 a3 a : Nat} {hs wd : Bool} (h1 : nx l 0 0 72 = (e1, a1, f1)) (h2 : (e2, a2, f2) = vB l (e1, a1, f1)) (h3 : ((e3, a3), pl, hs, wd, pc) = vC l (e2, a2, f2) picN) (h4 : (er, a) = stepD l f2 (e3, a3) 2) :
  vpOut l = vpFin l f1 ((e3, a3), pl, hs, wd, pc) (er, a) := by
 unfold vpOut; rw [h1, ← h2, ← h3, h4]
set_option maxRecDepth 100000 in
set_option maxHeartbeats 4000000 in
theorem read_any (l : List Int) (sa : Option Addr) (ln cp : Nat) (w : World) (hl : SlB w sa ln cp l) :
  Calls Try.prog 76 #[.slice sa ln cp] w fun r w' => r = .returned (.tuple #[.agg (vpOut l).1, .int .i64 (vpOut l).2.1, .int .i64 (vpOut l).2.2]) ∧ Below w.heap.size w w' := by
 replace hl := Lib.hid hl
 have i0 : ∀ w, (Instr.index 166 (.agg #[.int .u8 64, .int .u8 48]) (.int .i64 0)).run Try.prog w = .ok (.int .u8 64) w := fun _ => by kernel_rfl
 have i1 : ∀ w, (Instr.index 166 (.agg #[.int .u8 64, .int .u8 48]) (.int .i64 1)).run Try.prog w = .ok (.int .u8 48) w := fun _ => by kernel_rfl
 go_enter Try.func76, Try.ntmps76
 go_wp2_with fail
 refine (vp_next l sa ln cp 0 _ 72 0 w hl.out).mono ?_
 rintro r w1 ⟨rfl, rfl⟩
 generalize h1 : nx l 0 0 72 = A
 obtain ⟨e1, a1, f1⟩ := A
 replace h1 := Lib.hid h1
 dsimp only
 go_upto_if 24 with (fail)
 go_cut [8] (fun s wc => ∃ e2 a2 f2, Hid ((e2, a2, f2) = vB l (e1, a1, f1)) ∧ s = .int .u8 f2 ∧ wc = ((((w.alloc (.cells #[.slice sa ln cp] 34)).alloc (.cells #[.bool (bits .and .u8 f1 16 != 0), .int .u8 (bits .and .u8 f1 7), .bool false, .bool false, .int .u16 0, .bool false, .int .i64 0] 65)).alloc (.cells #[.int .i64 e2] 43)).alloc (.cells #[.int .i64 (a2 : Nat)] 3)))
 case first =>
  by_cases hb : (bits .and .u8 f1 128 != 0) = true
  ·go_wp2_with fail
   refine (vp_next l sa ln cp a1 _ 15 e1 w hl.out).mono ?_
   rintro r w1 ⟨rfl, rfl⟩
   go_wp2_with fail
   go_meet
   exact ⟨_, _, _, Lib.hid (by unfold vB; rw [if_pos (by simpa using hb)]), rfl, rfl⟩
  ·replace hb : (bits .and .u8 f1 128 != 0) = false := by simpa using hb
   go_wp2_with fail
   go_meet
   exact ⟨_, _, _, Lib.hid (by unfold vB; rw [if_neg (by simpa using hb)]), rfl, rfl⟩
 case rest =>
  obtain ⟨e2, a2, f2, h2, rfl, rfl⟩ := hcut
  go_upto_if 29 with (fail)
  go_cut [3, 9] (fun s3 s9 wc => ∃ e3 a3 pl hs wd pc, Hid (((e3, a3), pl, hs, wd, pc) = vC l (e2, a2, f2) picN) ∧ s3 = .int .i64 pl ∧ wc = ((((w.alloc (.cells #[.slice sa ln cp] 34)).alloc (.cells #[.bool (bits .and .u8 f1 16 != 0), .int .u8 (bits .and .u8 f1 7), .bool hs, .bool wd, .int .u16 pc, .bool false, .int .i64 0] 65)).alloc (.cells #[.int .i64 e3] 43)).alloc (.cells #[.int .i64 (a3 : Nat)] 3)))
  case first =>
   by_cases hb : (bits .and .u8 f2 128 != 0) = true
   ·go_wp2_with fail
    refine (vp_next l sa ln cp a2 _ 0 e2 w hl.out).mono ?_
    rintro r w1 ⟨rfl, rfl⟩
    generalize hN : nx l e2 a2 0 = N
    obtain ⟨e3, a3, n3⟩ := N
    replace hN := Lib.hid hN
    dsimp only
    by_cases hb3 : (bits .and .u8 n3 128 != 0) = true
    ·go_wp2_with fail
     refine (vp_next l sa ln cp a3 _ 0 e3 w hl.out).mono ?_
     rintro r w1 ⟨rfl, rfl⟩
     go_wp2_with fail
     go_meet
     exact ⟨_, _, _, _, _, _, Lib.hid (by unfold vC; rw [if_pos (by simpa using hb)]; simp only [hN.out]; rw [if_pos (by simpa using hb3)]; rfl), rfl, rfl⟩
    ·replace hb3 : (bits .and .u8 n3 128 != 0) = false := by simpa using hb3
     go_wp2_with fail
     go_meet
     exact ⟨_, _, _, _, _, _, Lib.hid (by unfold vC; rw [if_pos (by simpa using hb)]; simp only [hN.out]; rw [if_neg (by simpa using hb3)]), rfl, rfl⟩
   ·replace hb : (bits .and .u8 f2 128 != 0) = false := by simpa using hb
    go_wp2_with fail
    go_meet
    exact ⟨_, _, _, _, _, _, Lib.hid (by unfold vC; rw [if_neg (by simpa using hb)]), rfl, rfl⟩
  case rest =>
   obtain ⟨e3, a3, pl, hs, wd, pc, h3, rfl, rfl⟩ := hcut
   go_wp2_with fail
   go_loopw [53] (fun i wx => ∃ j, j ≤ 2 ∧ i = .int .i64 (j : Nat) ∧ ∃ er a, Hid ((er, a) = stepD l f2 (e3, a3) j) ∧ wx = ((((w.alloc (.cells #[.slice sa ln cp] 34)).alloc (.cells #[.bool (bits .and .u8 f1 16 != 0), .int .u8 (bits .and .u8 f1 7), .bool hs, .bool wd, .int .u16 pc, .bool false, .int .i64 0] 65)).alloc (.cells #[.int .i64 er] 43)).alloc (.cells #[.int .i64 (a : Nat)] 3))) (fun i _ => (2 - intOf i).toNat)
   case atStart => exact ⟨0, by omega, rfl, e3, a3, Lib.hid rfl, rfl⟩
   case round =>
    obtain ⟨j, hj, rfl, er, a, h4, rfl⟩ := hrel
    by_cases hj2 : j < 2
    ·obtain rfl | rfl : j = 0 ∨ j = 1 := by omega
     ·by_cases hb : (bits .and .u8 f2 64 != 0) = true
      ·go_wp2_with fail
       refine (vp_next l sa ln cp a _ 0 er w hl.out).mono ?_
       rintro r w1 ⟨rfl, rfl⟩
       go_wp2_with fail
       go_roundw
       case rel => exact ⟨1, by omega, by go_num, _, _, Lib.hid (by rw [stepD]; rw [if_pos (by simpa using hb)]; simp only [← h4.out]), rfl⟩
       case measure => simp [intOf]
      ·replace hb : (bits .and .u8 f2 64 != 0) = false := by simpa using hb
       go_wp2_with fail
       go_roundw
       case rel => exact ⟨1, by omega, by go_num, _, _, Lib.hid (by rw [stepD]; rw [if_neg (by simpa using hb)]; exact h4.out), rfl⟩
       case measure => simp [intOf]
     ·by_cases hb : (bits .and .u8 f2 48 != 0) = true
      ·go_wp2_with fail
       refine (vp_next l sa ln cp a _ 0 er w hl.out).mono ?_
       rintro r w1 ⟨rfl, rfl⟩
       go_wp2_with fail
       go_roundw
       case rel => exact ⟨2, by omega, by go_num, _, _, Lib.hid (by rw [stepD]; rw [if_pos (by simpa using hb)]; simp only [← h4.out]), rfl⟩
       case measure => simp [intOf]
      ·replace hb : (bits .and .u8 f2 48 != 0) = false := by simpa using hb
       go_wp2_with fail
       go_roundw
       case rel => exact ⟨2, by omega, by go_num, _, _, Lib.hid (by rw [stepD]; rw [if_neg (by simpa using hb)]; exact h4.out), rfl⟩
       case measure => simp [intOf]
    ·obtain rfl : j = 2 := by omega
     by_cases he : (er != 0) = true
     ·go_wp2_with fail
      have hfin : Hid (vpOut l = vpFin l f1 ((e3, a3), pl, hs, wd, pc) (er, a)) := vpOut_eq h1.out h2.out h3.out h4.out
      go_region
      all_goals go_wp2_with fail
      all_goals rw [hfin.out]
      all_goals unfold vpFin
      all_goals rw [if_pos (by simpa using he)]
      all_goals exact bodyPost_ret (v := .tuple #[.agg #[.bool false, .int .u8 0, .bool false, .bool false, .int .u16 0, .bool false, .int .i64 0], .int .i64 0, .int .i64 er]) (by simp [results, Try.results76, go_sem]) rfl ⟨rfl, by first | exact (vp_below _ _ _ _ _).drew | exact vp_below _ _ _ _ _⟩
     ·replace he : (er != 0) = false := by simpa using he
      have hfin : Hid (vpOut l = vpFin l f1 ((e3, a3), pl, hs, wd, pc) (er, a)) := vpOut_eq h1.out h2.out h3.out h4.out
      by_cases hal : a < ln
      ·obtain ⟨hln, _, _, _, h5⟩ := hl.out
       rcases h5 with h5 | ⟨b, o, rfl, hlt, hc⟩
       ·omega
       have hx := hc a hal
       have hln' := hl.out.len
       have hlt1 : b < w.heap.size + 1 := by omega
       have hlt2 : b < w.heap.size + 1 + 1 := by omega
       have hlt3 : b < w.heap.size + 1 + 1 + 1 := by omega
       replace hln := Lib.hid hln
       have hkey : Hid (vpKey l f1 a = ((bits .and .u8 f1 16 != 0) && (bits .and .u8 f1 7 == 0) && (bits .and .u8 (l.getD a 0) 1 == 0))) := by
        have := hln.out
        unfold vpKey; rw [show decide (a < l.length) = true by simp; omega]; simp [Hid]
       clear hc
       generalize l.getD a 0 = x at *
       go_wp2_with fail
       all_goals rw [hfin.out]
       all_goals unfold vpFin
       all_goals rw [if_neg (by simpa using he), hkey.out]
       all_goals exact bodyPost_ret (v := .tuple #[.agg #[.bool (bits .and .u8 f1 16 != 0), .int .u8 (bits .and .u8 f1 7), .bool hs, .bool wd, .int .u16 pc, .bool ((bits .and .u8 f1 16 != 0) && (bits .and .u8 f1 7 == 0) && (bits .and .u8 x 1 == 0)), .int .i64 a], .int .i64 pl, .int .i64 0]) (by clear hkey hfin h1 h2 h3 h4 hl i0 i1; simp [results, Try.results76, go_sem, *]) rfl ⟨rfl, vp_below _ _ _ _ _⟩
      ·have hkey : Hid (vpKey l f1 a = false) := by
        have := hl.out.1
        unfold vpKey; rw [show decide (a < l.length) = false by simp; omega]; simp [Hid]
       go_wp2_with fail
       all_goals rw [hfin.out]
       all_goals unfold vpFin
       all_goals rw [if_neg (by simpa using he), hkey.out]
       all_goals exact bodyPost_ret (v := .tuple #[.agg #[.bool (bits .and .u8 f1 16 != 0), .int .u8 (bits .and .u8 f1 7), .bool hs, .bool wd, .int .u16 pc, .bool false, .int .i64 a], .int .i64 pl, .int .i64 0]) (by clear hkey hfin h1 h2 h3 h4 hl i0 i1; simp [results, Try.results76, go_sem, *]) rfl ⟨rfl, vp_below _ _ _ _ _⟩
end Go.Proofs.Ytojedpahaifjgaa

namespace Go.Proofs.Ytojedpahaifjgaa
open Go.RowKit
def vpZero : Array Value := #[.bool false, .int .u8 0, .bool false, .bool false, .int .u16 0, .bool false, .int .i64 0]
def rSec (l : List Int) : Int := if 128 ≤ l.getD 0 0 then l.getD 1 0 else 0
def rAt1 (l : List Int) : Nat := if 128 ≤ l.getD 0 0 then 2 else 1
def rNum (l : List Int) (s : Int) (a : Nat) : Int × Bool × Bool × Int × Nat :=
 if 128 ≤ s then
  if 128 ≤ l.getD a 0 then ((a : Nat), true, true, (l.getD a 0 - 128) * 256 + l.getD (a + 1) 0, a + 2)
  else ((a : Nat), true, false, l.getD a 0, a + 1)
 else (0, false, false, 0, a)
def rBad (l : List Int) : Int :=
 if l.length < 1 then 2 else if l.getD 0 0 / 64 % 2 = 1 ∨ l.getD 0 0 / 8 % 2 = 1 then 3
 else if 128 ≤ l.getD 0 0 ∧ l.length < 2 then 2 else if 128 ≤ l.getD 0 0 ∧ 0 < l.getD 1 0 % 16 then 3
 else if 128 ≤ rSec l ∧ l.length ≤ rAt1 l then 2 else if 128 ≤ rSec l ∧ 128 ≤ l.getD (rAt1 l) 0 ∧ l.length ≤ rAt1 l + 1 then 2 else 0
def rAt3 (s : Int) (a : Nat) : Nat := if s / 64 % 2 = 1 then a + 1 else a
def rAt4 (s : Int) (a : Nat) : Nat := if s / 32 % 2 = 1 ∨ s / 16 % 2 = 1 then a + 1 else a
def rKey (l : List Int) (a : Nat) : Bool := (l.getD 0 0 / 16 % 2 == 1) && (l.getD 0 0 % 8 == 0) && decide (a < l.length) && (l.getD a 0 % 2 == 0)
def rOut (l : List Int) : Array Value × Int × Int :=
 if rBad l ≠ 0 then (vpZero, 0, rBad l)
 else if l.length < rAt4 (rSec l) (rAt3 (rSec l) (rNum l (rSec l) (rAt1 l)).2.2.2.2) then (vpZero, 0, 2)
 else (#[.bool (l.getD 0 0 / 16 % 2 == 1), .int .u8 (l.getD 0 0 % 8), .bool (rNum l (rSec l) (rAt1 l)).2.1, .bool (rNum l (rSec l) (rAt1 l)).2.2.1, .int .u16 (rNum l (rSec l) (rAt1 l)).2.2.2.1,
  .bool (rKey l (rAt4 (rSec l) (rAt3 (rSec l) (rNum l (rSec l) (rAt1 l)).2.2.2.2))), .int .i64 (rAt4 (rSec l) (rAt3 (rSec l) (rNum l (rSec l) (rAt1 l)).2.2.2.2) : Nat)], (rNum l (rSec l) (rAt1 l)).1, 0)
theorem rW_below (w : World) (x y z : Array Value) (t : TypeId) : Below w.heap.size w (((w.alloc (.cells x t)).alloc (.cells y t)).alloc (.cells z t)) :=
 (((Below.refl _ _).alloc (Nat.le_refl _) _).alloc (by simp) _).alloc (by simp; omega) _
def rPost (l : List Int) (w : World) (r : Ending) (w' : World) : Prop := r = .returned (.tuple #[.agg (rOut l).1, .int .i64 (rOut l).2.1, .int .i64 (rOut l).2.2]) ∧ Below w.heap.size w w'
theorem rPost_bad {l : List Int} {w w' : World} {e : Int} (h : rBad l = e) (he : e ≠ 0) (hb : Below w.heap.size w w') : rPost l w (.returned (.tuple #[.agg vpZero, .int .i64 0, .int .i64 e])) w' := by
 subst h
 refine ⟨?_, hb⟩
 unfold rOut
 rw [if_pos he]
set_option maxRecDepth 100000 in
set_option maxHeartbeats 4000000 in
theorem ref_empty (l : List Int) (sa : Option Addr) (ln cp : Nat) (w : World) (hl : SlB w sa ln cp l) (h0 : l.length < 1) :
  Calls Try.prog 13 #[.slice sa ln cp] w (rPost l w) := by
 have hln : ln < 1 := by have := hl.1; omega
 have hb : Hid (rBad l = 2) := by show rBad l = 2; unfold rBad; rw [if_pos h0]
 clear h0 hl
 go_enter Try.func13, Try.ntmps13
 go_wp2
 exact bodyPost_ret (v := .tuple #[.agg vpZero, .int .i64 0, .int .i64 2]) (by simp [vpZero, results, Try.results13, go_sem]) rfl (rPost_bad hb.out (by decide) (rW_below _ _ _ _ _))
set_option maxRecDepth 100000 in
set_option maxHeartbeats 4000000 in
theorem ref_any (l : List Int) (b o cp : Nat) (w : World) (h0 : 1 ≤ l.length) (hlen : l.length ≤ 9223372036854775807) (hb : b < w.heap.size) (hc : Hid (∀ i, i < l.length → w.cell? ⟨b, o + i, none⟩ = some (.int .u8 (l.getD i 0)))) (hr : Hid (∀ i, 0 ≤ l.getD i 0 ∧ l.getD i 0 ≤ 255)) :
  Calls Try.prog 13 #[.slice (some ⟨b, o, none⟩) l.length cp] w (rPost l w) := by
 have hb1 : b < w.heap.size + 1 := by omega
 have hb2 : b < w.heap.size + 1 + 1 := by omega
 have c0 : w.cell? ⟨b, o, none⟩ = some (.int .u8 (l.getD 0 0)) := hc.out 0 (by omega)
 have r0 := hr.out 0
 generalize hx0 : l.getD 0 0 = x0 at *
 replace hx0 := Lib.hid hx0
 obtain ⟨r00, r01⟩ := r0
 by_cases hbad : x0 / 64 % 2 = 1 ∨ x0 / 8 % 2 = 1
 ·have hbd : Hid (rBad l = 3) := by show rBad l = 3; unfold rBad; rw [hx0.out, if_neg (by omega), if_pos hbad]
  by_cases h1 : x0 / 64 % 2 = 1
  ·have h1' : (x0 / 64 % 2 == 1) = true := by simpa using h1
   clear hbad h1
   go_enter Try.func13, Try.ntmps13
   go_wp2
   exact bodyPost_ret (v := .tuple #[.agg vpZero, .int .i64 0, .int .i64 3]) (by simp [vpZero, results, Try.results13, go_sem]) rfl (rPost_bad hbd.out (by decide) (rW_below _ _ _ _ _))
  ·have h1' : (x0 / 64 % 2 == 1) = false := by simpa using h1
   have h2' : (x0 / 8 % 2 == 1) = true := by simp; omega
   clear hbad h1
   go_enter Try.func13, Try.ntmps13
   go_wp2
   exact bodyPost_ret (v := .tuple #[.agg vpZero, .int .i64 0, .int .i64 3]) (by simp [vpZero, results, Try.results13, go_sem]) rfl (rPost_bad hbd.out (by decide) (rW_below _ _ _ _ _))
 have h1' : (x0 / 64 % 2 == 1) = false := by simp; omega
 have h2' : (x0 / 8 % 2 == 1) = false := by simp; omega
 go_enter Try.func13, Try.ntmps13
 go_upto_if 46 with (fail)
 go_cut [8, 10] (fun s8 s10 wc => Hid (rBad l = if 128 ≤ rSec l ∧ l.length ≤ rAt1 l then 2 else if 128 ≤ rSec l ∧ 128 ≤ l.getD (rAt1 l) 0 ∧ l.length ≤ rAt1 l + 1 then 2 else 0) ∧ s8 = .int .i64 (rAt1 l : Nat) ∧ s10 = .int .u8 (rSec l) ∧ wc = (((w.alloc (.cells #[.bool false, .int .u8 0, .bool false, .bool false, .int .u16 0, .bool false, .int .i64 0] 65)).alloc (.cells #[.bool false, .int .u8 0, .bool false, .bool false, .int .u16 0, .bool false, .int .i64 0] 65)).alloc (.cells #[.bool (x0 / 16 % 2 == 1), .int .u8 (x0 % 8), .bool false, .bool false, .int .u16 0, .bool false, .int .i64 0] 65)))
 case first =>
  by_cases h128 : 128 ≤ x0
  ·by_cases hn2 : l.length < 2
   ·have hbd : Hid (rBad l = 2) := by show rBad l = 2; unfold rBad; rw [hx0.out, if_neg (by omega), if_neg hbad, if_pos ⟨h128, hn2⟩]
    go_wp2
    exact bodyPost_ret (v := .tuple #[.agg vpZero, .int .i64 0, .int .i64 2]) (by simp [vpZero, results, Try.results13, go_sem]) rfl (rPost_bad hbd.out (by decide) (rW_below _ _ _ _ _))
   ·have c1 : w.cell? ⟨b, o + 1, none⟩ = some (.int .u8 (l.getD 1 0)) := hc.out 1 (by omega)
    have hB : Hid (rBad l = if 128 ≤ x0 ∧ 0 < l.getD 1 0 % 16 then 3 else if 128 ≤ rSec l ∧ l.length ≤ rAt1 l then 2 else if 128 ≤ rSec l ∧ 128 ≤ l.getD (rAt1 l) 0 ∧ l.length ≤ rAt1 l + 1 then 2 else 0) := by
     show rBad l = _; unfold rBad; rw [hx0.out, if_neg (by omega), if_neg hbad, if_neg (by omega)]
    have hsec : Hid (rSec l = l.getD 1 0) := by show rSec l = _; unfold rSec; rw [hx0.out, if_pos h128]
    have hat : Hid (rAt1 l = 2) := by show rAt1 l = _; unfold rAt1; rw [hx0.out, if_pos h128]
    have r1 := hr.out 1
    obtain ⟨r10, r11⟩ := r1
    generalize hx1 : l.getD 1 0 = x1 at c1 hB hsec r10 r11
    replace hx1 := Lib.hid hx1
    by_cases h16 : 0 < x1 % 16
    ·have hbd : Hid (rBad l = 3) := by show rBad l = 3; rw [hB.out, if_pos ⟨h128, h16⟩]
     go_wp2
     exact bodyPost_ret (v := .tuple #[.agg vpZero, .int .i64 0, .int .i64 3]) (by simp [vpZero, results, Try.results13, go_sem]) rfl (rPost_bad hbd.out (by decide) (rW_below _ _ _ _ _))
    ·have hBB := hB.out
     rw [if_neg (by omega)] at hBB
     replace hBB := Lib.hid hBB
     go_wp2_with fail
     go_meet
     exact ⟨hBB, by rw [hat.out]; rfl, by rw [hsec.out], rfl⟩
  ·have hB : Hid (rBad l = if 128 ≤ rSec l ∧ l.length ≤ rAt1 l then 2 else if 128 ≤ rSec l ∧ 128 ≤ l.getD (rAt1 l) 0 ∧ l.length ≤ rAt1 l + 1 then 2 else 0) := by
     show rBad l = _; unfold rBad; rw [hx0.out, if_neg (by omega), if_neg hbad, if_neg (by omega), if_neg (by omega)]
   have hsec : Hid (rSec l = 0) := by show rSec l = _; unfold rSec; rw [hx0.out, if_neg h128]
   have hat : Hid (rAt1 l = 1) := by show rAt1 l = _; unfold rAt1; rw [hx0.out, if_neg h128]
   go_wp2_with fail
   go_meet
   exact ⟨hB, by rw [hat.out]; rfl, by rw [hsec.out], rfl⟩
 case rest =>
  obtain ⟨hB, rfl, rfl, rfl⟩ := hcut
  have s0 : 0 ≤ rSec l ∧ rSec l ≤ 255 := by
   have := hr.out 1
   unfold rSec; split <;> omega
  have hout : Hid (rOut l = if rBad l ≠ 0 then (vpZero, 0, rBad l)
   else if l.length < rAt4 (rSec l) (rAt3 (rSec l) (rNum l (rSec l) (rAt1 l)).2.2.2.2) then (vpZero, 0, 2)
   else (#[.bool (x0 / 16 % 2 == 1), .int .u8 (x0 % 8), .bool (rNum l (rSec l) (rAt1 l)).2.1, .bool (rNum l (rSec l) (rAt1 l)).2.2.1, .int .u16 (rNum l (rSec l) (rAt1 l)).2.2.2.1,
    .bool (rKey l (rAt4 (rSec l) (rAt3 (rSec l) (rNum l (rSec l) (rAt1 l)).2.2.2.2))), .int .i64 (rAt4 (rSec l) (rAt3 (rSec l) (rNum l (rSec l) (rAt1 l)).2.2.2.2) : Nat)], (rNum l (rSec l) (rAt1 l)).1, 0)) := by
   rw [← hx0.out]; exact rfl
  have a0 : 1 ≤ rAt1 l ∧ rAt1 l ≤ 2 := by unfold rAt1; split <;> omega
  obtain ⟨s00, s01⟩ := s0
  obtain ⟨a00, a01⟩ := a0
  generalize rSec l = sec at *
  generalize rAt1 l = a1 at *
  go_upto_if 58 with (fail)
  go_cut [8, 9] (fun s8 s9 wc => ∃ pl hs wd pc a k, Hid ((pl, hs, wd, pc, a) = rNum l sec a1) ∧ a1 ≤ a ∧ a ≤ a1 + 2 ∧ Hid (rBad l = 0) ∧ s8 = .int .i64 (a : Nat) ∧ s9 = .int .i64 pl ∧ wc = World.drewN (((w.alloc (.cells #[.bool false, .int .u8 0, .bool false, .bool false, .int .u16 0, .bool false, .int .i64 0] 65)).alloc (.cells #[.bool false, .int .u8 0, .bool false, .bool false, .int .u16 0, .bool false, .int .i64 0] 65)).alloc (.cells #[.bool (x0 / 16 % 2 == 1), .int .u8 (x0 % 8), .bool hs, .bool wd, .int .u16 pc, .bool false, .int .i64 0] 65)) k)
  case first =>
   by_cases h128 : 128 ≤ sec
   ·by_cases hn : l.length ≤ a1
    ·have hbd : Hid (rBad l = 2) := by show rBad l = 2; rw [hB.out, if_pos ⟨h128, hn⟩]
     go_wp2
     exact bodyPost_ret (v := .tuple #[.agg vpZero, .int .i64 0, .int .i64 2]) (by simp [vpZero, results, Try.results13, go_sem]) rfl (rPost_bad hbd.out (by decide) (rW_below _ _ _ _ _))
    ·have c2 : w.cell? ⟨b, o + a1, none⟩ = some (.int .u8 (l.getD a1 0)) := hc.out a1 (by omega)
     have hB2 := hB.out
     rw [if_neg (by omega)] at hB2
     have hN : Hid (rNum l sec a1 = if 128 ≤ l.getD a1 0 then (((a1 : Nat) : Int), true, true, (l.getD a1 0 - 128) * 256 + l.getD (a1 + 1) 0, a1 + 2) else (((a1 : Nat) : Int), true, false, l.getD a1 0, a1 + 1)) := by
      show rNum l sec a1 = _; unfold rNum; rw [if_pos h128]
     have r2 := hr.out a1
     obtain ⟨r20, r21⟩ := r2
     generalize hx2 : l.getD a1 0 = x2 at c2 hB2 hN r20 r21
     replace hx2 := Lib.hid hx2
     replace hB2 := Lib.hid hB2
     by_cases hw : 128 ≤ x2
     ·have hN2 := hN.out
      rw [if_pos hw] at hN2
      replace hN2 := Lib.hid hN2
      by_cases hn2 : l.length ≤ a1 + 1
      ·have hbd : Hid (rBad l = 2) := by show rBad l = 2; rw [hB2.out, if_pos ⟨h128, hw, hn2⟩]
       go_wp2
       exact bodyPost_ret (v := .tuple #[.agg vpZero, .int .i64 0, .int .i64 2]) (by simp [vpZero, results, Try.results13, go_sem]) rfl (rPost_bad hbd.out (by decide) (rW_below _ _ _ _ _))
      ·have hbd : Hid (rBad l = 0) := by show rBad l = 0; rw [hB2.out, if_neg (by omega)]
       have c3 : w.cell? ⟨b, o + (a1 + 1), none⟩ = some (.int .u8 (l.getD (a1 + 1) 0)) := hc.out (a1 + 1) (by omega)
       have r3 := hr.out (a1 + 1)
       obtain ⟨r30, r31⟩ := r3
       generalize hx3 : l.getD (a1 + 1) 0 = x3 at c3 r30 r31 hN2
       replace hx3 := Lib.hid hx3
       have hm1 : 0 ≤ (x2 - 128) * 256 + x3 := by omega
       have hm2 : (x2 - 128) * 256 + x3 ≤ 65535 := by omega
       go_wp2_with fail
       go_region
       all_goals go_wp2_with fail
       all_goals go_meet
       all_goals first | exact ⟨_, _, _, _, _, 0, Lib.hid hN2.out.symm, by omega, by omega, hbd, by go_num, rfl, rfl⟩ | exact ⟨_, _, _, _, _, 1, Lib.hid hN2.out.symm, by omega, by omega, hbd, by go_num, rfl, rfl⟩
     ·have hbd : Hid (rBad l = 0) := by show rBad l = 0; rw [hB2.out, if_neg (by omega)]
      have hN2 := hN.out
      rw [if_neg hw] at hN2
      replace hN2 := Lib.hid hN2
      go_wp2_with fail
      go_meet
      first | exact ⟨_, _, _, _, _, 0, Lib.hid hN2.out.symm, by omega, by omega, hbd, by go_num, rfl, rfl⟩ | exact ⟨_, _, _, _, _, 1, Lib.hid hN2.out.symm, by omega, by omega, hbd, by go_num, rfl, rfl⟩
   ·have hbd : Hid (rBad l = 0) := by show rBad l = 0; rw [hB.out, if_neg (by omega), if_neg (by omega)]
    have hN : Hid (rNum l sec a1 = (0, false, false, 0, a1)) := by show rNum l sec a1 = _; unfold rNum; rw [if_neg h128]
    go_wp2_with fail
    go_meet
    exact ⟨_, _, _, _, _, 0, Lib.hid hN.out.symm, by omega, by omega, hbd, rfl, rfl, rfl⟩
  case rest =>
   obtain ⟨pl, hs, wd, pc, a, k, hN, ha1, ha2, hbd, rfl, rfl, rfl⟩ := hcut
   have hout2 := hout.out
   rw [← hN.out, if_neg (by simp [hbd.out])] at hout2
   dsimp only at hout2
   replace hout2 := Lib.hid hout2
   clear hout hB
   have hcom : ∀ (w : World) (a : Addr) (v : Value), (w.drewN k).setCell a v = (w.setCell a v).drewN k := fun _ _ _ => rfl
   generalize hp3 : rAt3 sec a = p3 at hout2
   have hp3a : p3 ≤ a + 1 := by rw [← hp3]; unfold rAt3; split <;> omega
   have hp3b : 1 ≤ p3 := by rw [← hp3]; unfold rAt3; split <;> omega
   replace hp3 := Lib.hid hp3
   go_upto_if 102 with (fail)
   go_cut [8] (fun s8 wc => s8 = .int .i64 (p3 : Nat) ∧ wc = World.drewN (((w.alloc (.cells #[.bool false, .int .u8 0, .bool false, .bool false, .int .u16 0, .bool false, .int .i64 0] 65)).alloc (.cells #[.bool false, .int .u8 0, .bool false, .bool false, .int .u16 0, .bool false, .int .i64 0] 65)).alloc (.cells #[.bool (x0 / 16 % 2 == 1), .int .u8 (x0 % 8), .bool hs, .bool wd, .int .u16 pc, .bool false, .int .i64 0] 65)) k)
   case first =>
    by_cases h64 : sec / 64 % 2 = 1
    ·have h64' : (sec / 64 % 2 == 1) = true := by simpa using h64
     have e3 : a + 1 = p3 := by rw [← hp3.out]; unfold rAt3; rw [if_pos h64]
     replace e3 := Lib.hid e3
     go_wp2_with fail
     go_meet
     exact ⟨by rw [← e3.out]; go_num, rfl⟩
    ·have h64' : (sec / 64 % 2 == 1) = false := by simpa using h64
     have e3 : a = p3 := by rw [← hp3.out]; unfold rAt3; rw [if_neg h64]
     replace e3 := Lib.hid e3
     go_wp2_with fail
     go_meet
     exact ⟨by rw [← e3.out], rfl⟩
   case rest =>
    obtain ⟨rfl, rfl⟩ := hcut
    generalize hp4 : rAt4 sec p3 = p4 at hout2
    have hp4a : p4 ≤ p3 + 1 := by rw [← hp4]; unfold rAt4; split <;> omega
    have hp4b : 1 ≤ p4 := by rw [← hp4]; unfold rAt4; split <;> omega
    replace hp4 := Lib.hid hp4
    go_upto_region 33 with (fail)
    go_cut [114] (fun s wc => s = .bool (decide (sec / 32 % 2 = 1 ∨ sec / 16 % 2 = 1)) ∧ wc = World.drewN (((w.alloc (.cells #[.bool false, .int .u8 0, .bool false, .bool false, .int .u16 0, .bool false, .int .i64 0] 65)).alloc (.cells #[.bool false, .int .u8 0, .bool false, .bool false, .int .u16 0, .bool false, .int .i64 0] 65)).alloc (.cells #[.bool (x0 / 16 % 2 == 1), .int .u8 (x0 % 8), .bool hs, .bool wd, .int .u16 pc, .bool false, .int .i64 0] 65)) k)
    case first =>
     by_cases h32 : sec / 32 % 2 = 1
     ·have h32' : (sec / 32 % 2 == 1) = true := by simpa using h32
      have hd : Hid (decide (sec / 32 % 2 = 1 ∨ sec / 16 % 2 = 1) = true) := by show _ = _; simp [h32]
      go_wp2_with fail
      go_meet
      exact ⟨by rw [hd.out], rfl⟩
     ·have h32' : (sec / 32 % 2 == 1) = false := by simpa using h32
      have hd : Hid (decide (sec / 32 % 2 = 1 ∨ sec / 16 % 2 = 1) = (sec / 16 % 2 == 1)) := by show _ = _; simp [h32]; rfl
      go_wp2_with fail
      go_meet
      exact ⟨by rw [hd.out], rfl⟩
    case rest =>
    obtain ⟨rfl, rfl⟩ := hcut
    go_upto_if 114 with (fail)
    go_cut [8] (fun s8 wc => s8 = .int .i64 (p4 : Nat) ∧ wc = World.drewN (((w.alloc (.cells #[.bool false, .int .u8 0, .bool false, .bool false, .int .u16 0, .bool false, .int .i64 0] 65)).alloc (.cells #[.bool false, .int .u8 0, .bool false, .bool false, .int .u16 0, .bool false, .int .i64 0] 65)).alloc (.cells #[.bool (x0 / 16 % 2 == 1), .int .u8 (x0 % 8), .bool hs, .bool wd, .int .u16 pc, .bool false, .int .i64 0] 65)) k)
    case first =>
     by_cases h32 : sec / 32 % 2 = 1 ∨ sec / 16 % 2 = 1
     ·have hd : decide (sec / 32 % 2 = 1 ∨ sec / 16 % 2 = 1) = true := by simpa using h32
      have e4 : p3 + 1 = p4 := by rw [← hp4.out]; unfold rAt4; rw [if_pos h32]
      replace e4 := Lib.hid e4
      go_wp2_with fail
      go_meet
      exact ⟨by rw [← e4.out]; go_num, rfl⟩
     ·have hd : decide (sec / 32 % 2 = 1 ∨ sec / 16 % 2 = 1) = false := by simpa using h32
      have e4 : p3 = p4 := by rw [← hp4.out]; unfold rAt4; rw [if_neg h32]
      replace e4 := Lib.hid e4
      go_wp2_with fail
      go_meet
      exact ⟨by rw [← e4.out], rfl⟩
    case rest =>
     obtain ⟨rfl, rfl⟩ := hcut
     by_cases hlt : l.length < p4
     ·have ho := hout2.out
      rw [if_pos hlt] at ho
      replace ho := Lib.hid ho
      go_wp2_with fail
      exact bodyPost_ret (v := .tuple #[.agg vpZero, .int .i64 0, .int .i64 2]) (by simp [vpZero, results, Try.results13, go_sem]) rfl ⟨by rw [ho.out], Below.drewN (rW_below _ _ _ _ _) _⟩
     ·have ho := hout2.out
      rw [if_neg hlt] at ho
      replace ho := Lib.hid ho
      by_cases hal : p4 < l.length
      ·have c4 : w.cell? ⟨b, o + p4, none⟩ = some (.int .u8 (l.getD p4 0)) := hc.out p4 hal
       have hkey : Hid (rKey l p4 = ((x0 / 16 % 2 == 1) && (x0 % 8 == 0) && (l.getD p4 0 % 2 == 0))) := by
        show rKey l p4 = _
        unfold rKey; rw [hx0.out, show decide (p4 < l.length) = true by simp; omega]; simp
       have r4 := hr.out p4
       obtain ⟨r40, r41⟩ := r4
       generalize l.getD p4 0 = x4 at c4 hkey r40 r41
       go_wp2_with fail
       all_goals refine bodyPost_ret (v := .tuple #[.agg #[.bool (x0 / 16 % 2 == 1), .int .u8 (x0 % 8), .bool hs, .bool wd, .int .u16 pc, .bool ((x0 / 16 % 2 == 1) && (x0 % 8 == 0) && (x4 % 2 == 0)), .int .i64 p4], .int .i64 pl, .int .i64 0]) (by clear hkey ho hc hr hx0 hN hcom; simp [results, Try.results13, go_sem, *]) rfl ⟨by rw [ho.out, hkey.out], Below.drewN (rW_below _ _ _ _ _) _⟩
      ·have hkey : Hid (rKey l p4 = false) := by
        show rKey l p4 = _
        unfold rKey; rw [show decide (p4 < l.length) = false by simp; omega]; simp
       go_wp2_with fail
       all_goals refine bodyPost_ret (v := .tuple #[.agg #[.bool (x0 / 16 % 2 == 1), .int .u8 (x0 % 8), .bool hs, .bool wd, .int .u16 pc, .bool false, .int .i64 p4], .int .i64 pl, .int .i64 0]) (by clear hkey ho hc hr hx0 hN hcom; simp [results, Try.results13, go_sem, *]) rfl ⟨by rw [ho.out, hkey.out], Below.drewN (rW_below _ _ _ _ _) _⟩
end Go.Proofs.Ytojedpahaifjgaa
