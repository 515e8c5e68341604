/- The reference's egress (tenailleref28): New. No condition but the numbers' bounds. -/
import Derived.Test.YtojedpahaifjgaaGEl2
import Derived.Test.YtojedpahaifjgaaEpF
import Derived.Test.YtojedpahaifjgaaGEg
import Derived.Test.YtojedpahaifjgaaEpS
import Derived.Deep.CutBlock
namespace Go.Proofs.Ytojedpahaifjgaa
open Go.RowKit
def burN (again : Int) : Int := if 4611686018427387903 < again then 18446744073709551615 else again * 4
theorem burN_range {again : Int} (h : 0 ≤ again ∧ again ≤ 18446744073709551615) : 0 ≤ burN again ∧ burN again ≤ 18446744073709551615 := by
 unfold burN
 split <;> omega
def limX (l0 l1 l2 l3 l4 l5 pk by_ again : Int) : Array Value := #[.int .i64 l0, .int .i64 l1, .int .i64 l2, .int .i64 l3, .int .i64 l4, .int .i64 l5, .int .i64 pk, .int .i64 by_, .int .u64 again]
structure R28 (w : World) (base q qc qw qr qb : Nat) (src c many wanted goes first : Int) (fol : Bool) (a b : Mpd) (v : Value) (L : List Mpd) (pk by_ : Int) (vi vb : Value) (M : PL) (rate burst hav : Int) : Prop where
 hp : HpB w q (.cells #[.int .u32 src, .int .i64 c, .pointer (some ⟨qc, 0, none⟩), .pointer (some ⟨qw, 0, none⟩), .pointer (some ⟨qr, 0, none⟩), .pointer (some ⟨qb, 0, none⟩)] 86)
 ch : HpB w qc (.cells (chC many wanted goes) 102)
 wr : W22 w base qw first fol a b v L
 rg : RefV w base qr pk by_ vi vb M
 bk : Rb w qb rate burst hav
set_option maxRecDepth 100000 in
set_option maxHeartbeats 8000000 in
theorem c28_new (base : Nat) (src c many first l0 l1 l2 l3 l4 l5 pk by_ again : Int) (ha : 0 ≤ again ∧ again ≤ 18446744073709551615) (w : World) :
  Calls Try.prog 20 #[.int .u32 src, .int .i64 c, .int .i64 many, .int .i64 first, .agg (limX l0 l1 l2 l3 l4 l5 pk by_ again)] w fun e w' => ∃ q qc qw qr qb, e = .returned (.pointer (some ⟨q, 0, none⟩)) ∧ (w.heap.size ≤ q ∧ w.heap.size ≤ qc ∧ w.heap.size ≤ qw ∧ w.heap.size ≤ qr ∧ w.heap.size ≤ qb) ∧ R28 w' base q qc qw qr qb src c many (-1) (-1) (max first 0) false (0, 0, 0) (0, 0, 0) (.slice none 0 0) [] pk by_ (.slice none 0 0) (.slice none 0 0) [] again (burN again) (burN again) ∧ BW w w' := by
 have B0 := Lib.hid (show BW w (w.alloc (.cells (limX l0 l1 l2 l3 l4 l5 pk by_ again) 31)) from (BW.refl w).alloc)
 have X0 := HpB.new w (.cells (limX l0 l1 l2 l3 l4 l5 pk by_ again) 31)
 unfold limX at *
 obtain ⟨burst, hbu⟩ : ∃ u, burN again = u := ⟨_, rfl⟩
 rw [hbu]
 unfold burN at hbu
 have z8 := (hp_cell X0 8).trans (show _ = some (.int .u64 again) from rfl)
 obtain ⟨f0, hf0⟩ : ∃ f0, max first 0 = f0 := ⟨_, rfl⟩
 rw [hf0]
 go_enter Try.func20, Try.ntmps20
 go_upto_region 1 with (fail)
 generalize w.alloc _ = w1 at *
 generalize w.heap.size = bx at *
 go_upto_if 17 with (fail)
 go_cut [11] (fun y wc => y = .int .u64 burst ∧ w1 = wc)
 case first =>
  by_cases h1 : 4611686018427387903 < again
  ·have d1 : decide (4611686018427387903 < again) = true := decide_eq_true h1
   rw [if_pos h1] at hbu
   go_wp2_with fail
   go_meet
   exact ⟨by rw [← hbu], rfl⟩
  ·have d1 : decide (4611686018427387903 < again) = false := decide_eq_false h1
   rw [if_neg h1] at hbu
   go_wp2_with fail
   go_meet
   exact ⟨by rw [← hbu]; congr 1; exact IntWalk.u64_in _ (by omega), rfl⟩
 obtain ⟨rfl, rfl⟩ := hcut
 go_upto_if 19 with (fail)
 go_cut [3] (fun y wc => y = .int .i64 f0 ∧ w1 = wc)
 case first =>
  by_cases h1 : first < 0
  ·have d1 : decide (first < 0) = true := decide_eq_true h1
   have e1 : f0 = 0 := by omega
   go_wp2_with fail
   go_meet
   exact ⟨by rw [e1], rfl⟩
  ·have d1 : decide (first < 0) = false := decide_eq_false h1
   have e1 : first = f0 := by omega
   go_wp2_with fail
   go_meet
   exact ⟨by first | rfl | rw [e1], rfl⟩
 obtain ⟨rfl, rfl⟩ := hcut
 clear z8 hbu hf0
 go_upto_region 6 with (fail)
 replace X0 := Lib.hid X0
 have z4 := (hp_cell X0.out 6).trans (show _ = some (.int .i64 pk) from rfl)
 have z5 := (hp_cell X0.out 7).trans (show _ = some (.int .i64 by_) from rfl)
 have z8 := (hp_cell X0.out 8).trans (show _ = some (.int .u64 again) from rfl)
 have m4 : ∀ y : LaterS [] w1, _ := fun y => y.bw.cell z4
 have m5 : ∀ y : LaterS [] w1, _ := fun y => y.bw.cell z5
 have m8 : ∀ y : LaterS [] w1, _ := fun y => y.bw.cell z8
 clear z4 z5 z8
 try simp only [Act.put, List.setIfInBounds_toArray, List.set_cons_succ, List.set_cons_zero]
 refine wp_region_gg [] [] [17] (by kernel_rfl) ?_
 refine hoist [] [] (a1 := ?_) 0 rfl (by kernel_rfl) (.inl ⟨rfl, rfl⟩) rfl rfl rfl (fun x K hK => ?_) ?_
 rotate_left
 ·go_big_quiet_op
  exact hK
 refine hoist [] [] (a1 := ?_) 1 rfl (by kernel_rfl) (.inl ⟨rfl, rfl⟩) rfl rfl rfl (fun x K hK => ?_) ?_
 rotate_left
 ·go_big_quiet_op
  exact hK
 refine hoist [] [] (a1 := ?_) 2 rfl (by kernel_rfl) (.inl ⟨rfl, rfl⟩) rfl rfl rfl (fun x K hK => ?_) ?_
 rotate_left
 ·go_big_quiet_op
  exact hK
 refine hoist [] [] (a1 := ?_) 4 rfl (by kernel_rfl) (.inl ⟨rfl, rfl⟩) rfl rfl rfl (fun x K hK => ?_) ?_
 rotate_left
 ·go_big_quiet_op
  exact hK
 refine hoist [] [] (a1 := ?_) 5 rfl (by kernel_rfl) (.inl ⟨rfl, rfl⟩) rfl rfl rfl (fun x K hK => ?_) ?_
 rotate_left
 ·go_big_quiet_op
  exact hK
 refine float 6 (fun g => .pointer (some ⟨g, 0, none⟩)) (.cells (w22 f0 false (0, 0, 0) (0, 0, 0) (.slice none 0 0)) 129) rfl (by kernel_rfl) (by first | assumption | (intro k hk; cases hk) | omega) rfl (fun x => (by go_simp; rfl)) ?_
 refine hoist [] [] (a1 := ?_) 7 rfl (by kernel_rfl) (.inl ⟨rfl, rfl⟩) rfl rfl rfl (fun x K hK => ?_) ?_
 rotate_left
 ·go_big_quiet_op
  exact hK
 refine hoist [] [] (a1 := ?_) 8 rfl (by kernel_rfl) (.inl ⟨rfl, rfl⟩) rfl rfl rfl (fun x K hK => ?_) ?_
 rotate_left
 ·go_big_quiet_op
  exact hK
 refine hoist [] [] (a1 := ?_) 9 rfl (by kernel_rfl) (.inl ⟨rfl, rfl⟩) rfl rfl rfl (fun x K hK => ?_) ?_
 rotate_left
 ·go_big_quiet_op
  exact hK
 refine hoist [] [] (a1 := ?_) 10 rfl (by kernel_rfl) (.inl ⟨rfl, rfl⟩) rfl rfl rfl (fun x K hK => ?_) ?_
 rotate_left
 ·go_big_quiet_op
  exact hK
 refine hoist [] [] (a1 := ?_) 11 rfl (by kernel_rfl) (.inl ⟨rfl, rfl⟩) rfl rfl rfl (fun x K hK => ?_) ?_
 rotate_left
 ·go_big_quiet_op
  exact hK
 refine float 12 (fun g => .pointer (some ⟨g, 0, none⟩)) (.cells #[.int .i64 pk, .int .i64 by_, .slice none 0 0, .slice none 0 0] 99) rfl (by kernel_rfl) (by first | assumption | (intro k hk; cases hk) | omega) rfl (fun x => (by go_simp)) ?_
 refine hoist [] [] (a1 := ?_) 13 rfl (by kernel_rfl) (.inl ⟨rfl, rfl⟩) rfl rfl rfl (fun x K hK => ?_) ?_
 rotate_left
 ·go_big_quiet_op
  exact hK
 refine hoist [] [] (a1 := ?_) 14 rfl (by kernel_rfl) (.inl ⟨rfl, rfl⟩) rfl rfl rfl (fun x K hK => ?_) ?_
 rotate_left
 ·go_big_quiet_op
  exact hK
 refine hoist [] [] (a1 := ?_) 15 rfl (by kernel_rfl) (.inl ⟨rfl, rfl⟩) rfl rfl rfl (fun x K hK => ?_) ?_
 rotate_left
 ·go_big_quiet_op
  exact hK
 refine effect 3 rfl (by kernel_rfl) (by kernel_rfl) rfl (fun x3 K hK => ?_)
 go_simp
 refine Calls.mono (c23_new many x3.now) ?_
 rintro e w2 ⟨rfl, C2, hb⟩
 refine hK _ _ (hb.still []) ?_
 clear hK K
 have B2 := Lib.hid ((B0.out.trans x3.bw).trans hb)
 have X2 := Lib.hid ((X0.out.bw x3.bw).bw hb)
 have hqc := Lib.hid (Nat.le_trans B0.out.size x3.bw.size)
 generalize x3.now.heap.size = qc at *
 replace C2 := Lib.hid C2
 clear hb m4 m5 m8
 have z4 := (hp_cell X2.out 6).trans (show _ = some (.int .i64 pk) from rfl)
 have z5 := (hp_cell X2.out 7).trans (show _ = some (.int .i64 by_) from rfl)
 have z8 := (hp_cell X2.out 8).trans (show _ = some (.int .u64 again) from rfl)
 have m4 : ∀ y : LaterS [] w2, _ := fun y => y.bw.cell z4
 have m5 : ∀ y : LaterS [] w2, _ := fun y => y.bw.cell z5
 have m8 : ∀ y : LaterS [] w2, _ := fun y => y.bw.cell z8
 clear z4 z5 z8
 try simp only [Act.put, List.setIfInBounds_toArray, List.set_cons_succ, List.set_cons_zero]
 refine effect 16 rfl (by kernel_rfl) (by kernel_rfl) rfl (fun x16 K hK => ?_)
 go_simp
 refine Calls.mono (rbnew_any again burst x16.now) ?_
 rintro e w3 ⟨rfl, hw3⟩
 have hb : BW x16.now w3 := by rw [hw3]; exact (BW.refl _).alloc
 refine hK _ _ (hb.still []) ?_
 clear hK K
 have K3 : Hid (Rb w3 x16.now.heap.size again burst burst) := Lib.hid (by rw [hw3]; exact HpB.new x16.now (.cells #[.int .u64 again, .int .u64 burst, .int .u64 burst] 92))
 have hqb := Lib.hid (Nat.le_trans B2.out.size x16.bw.size)
 have B3 := Lib.hid ((B2.out.trans x16.bw).trans hb)
 have C3 := Lib.hid ((C2.out.bw x16.bw).bw hb)
 generalize x16.now.heap.size = qb at *
 clear hb hw3 m4 m5 m8 B2 X2 C2
 try simp only [Act.put, List.setIfInBounds_toArray, List.set_cons_succ, List.set_cons_zero]
 refine tailF 17 rfl (by kernel_rfl) rfl (fun xr => ?_)
 intro g12 hg12 hG12
 intro g6 hg6 hG6
 refine fin_nil ?_
 dsimp only at hg12 hG12
 dsimp only at hg6 hG6
 try simp only [Act.put, List.setIfInBounds_toArray, List.set_cons_succ, List.set_cons_zero]
 simp only [List.drop_succ_cons, List.drop_zero]
 have B4 := Lib.hid (B3.out.trans xr.bw)
 have C4 := Lib.hid (C3.out.bw xr.bw)
 have K4 := Lib.hid (K3.out.bw xr.bw)
 clear B3 C3 K3
 generalize xr.now = w4 at *
 have W4 : Hid (HpB w4 g6 (.cells (w22 f0 false (0, 0, 0) (0, 0, 0) (.slice none 0 0)) 129)) := Lib.hid hG6
 have R4 : Hid (HpB w4 g12 (.cells #[.int .i64 pk, .int .i64 by_, .slice none 0 0, .slice none 0 0] 99)) := Lib.hid hG12
 have hq6 := Lib.hid (Nat.le_trans B0.out.size hg6)
 have hq12 := Lib.hid (Nat.le_trans B0.out.size hg12)
 clear hG6 hG12 hg6 hg12
 have B5 : BW w4 (w4.alloc (.cells #[.int .u32 src, .int .i64 c, .pointer (some ⟨qc, 0, none⟩), .pointer (some ⟨g6, 0, none⟩), .pointer (some ⟨g12, 0, none⟩), .pointer (some ⟨qb, 0, none⟩)] 86)) := (BW.refl _).alloc
 have E5 := Lib.hid (HpB.new w4 (.cells #[.int .u32 src, .int .i64 c, .pointer (some ⟨qc, 0, none⟩), .pointer (some ⟨g6, 0, none⟩), .pointer (some ⟨g12, 0, none⟩), .pointer (some ⟨qb, 0, none⟩)] 86))
 have hq := Lib.hid B4.out.size
 replace B5 := Lib.hid B5
 go_wp2_with fail
 go_ret
 exact ⟨_, qc, g6, g12, qb, rfl, ⟨hq.out, hqc.out, hq6.out, hq12.out, hqb.out⟩, ⟨E5.out, C4.out.bw B5.out, ⟨W4.out.bw B5.out, EQ.nil _ _ _ _⟩, ⟨R4.out.bw B5.out, EQ.nil _ _ _ _, EQ.nil _ _ _ _⟩, K4.out.bw B5.out⟩, B4.out.trans B5.out⟩
end Go.Proofs.Ytojedpahaifjgaa
