/- Frames: replies are written. No condition but the sizes'. Frames: the reference writes replies. No condition but the sizes'. Frames: replies are read. No condition but the sizes'. Frames: the reference reads replies. No condition but the sizes'. -/
import Derived.Test.YtcempndfbckcaaaFrI
import Derived.Test.YtcempndfbckcaaaGFr
import Derived.Test.YtcempndfbckcaaaRfM
import Derived.Test.YtcempndfbckcaaaRfN
import Derived.Test.YtcempndfbckcaaaBsj
namespace Go.Proofs.Ytcempndfbckcaaa
open Go.RowKit

/-- A reply's bytes ahead of its tag. -/
def repBody (nc c v : Nat) : List Nat := (([200] ++ putB 8 nc) ++ [c]) ++ putB 4 v
def repN (key : List Nat) (nc c v : Nat) : List Nat := tagB key (repBody nc c v)
theorem repBody_len (nc c v : Nat) : (repBody nc c v).length = 14 := by simp [repBody, putB_len]
theorem repN_len (key : List Nat) (nc c v : Nat) : (repN key nc c v).length = 24 := by unfold repN; rw [tagB_len, repBody_len]
def RepWPost (key : List Nat) (nc : Nat) (c v : Int) (w : World) (e : Ending) (w' : World) : Prop :=
  ((∃ cn vn : Nat, c = cn ∧ v = vn ∧ cn ≤ 255 ∧ vn ≤ 2147483647 ∧ ∃ u, e = .returned (.tuple #[u, .int .i64 0]) ∧ OB w' w.heap.size 5 u 24 (repN key nc cn vn)) ∨ (¬ (0 ≤ c ∧ c ≤ 255 ∧ 0 ≤ v ∧ v ≤ 2147483647) ∧ e = .returned (.tuple #[.slice none 0 0, .int .i64 1]))) ∧ BW w w'
theorem RepWPost.no {key : List Nat} {nc : Nat} {c v : Int} {w w' : World} {e : Ending} (h : ¬ (0 ≤ c ∧ c ≤ 255 ∧ 0 ≤ v ∧ v ≤ 2147483647)) (he : e = .returned (.tuple #[.slice none 0 0, .int .i64 1])) (hb : BW w w') : RepWPost key nc c v w e w' := ⟨.inr ⟨h, he⟩, hb⟩
theorem RepWPost.yes {key : List Nat} {nc cn vn : Nat} {w w' : World} {e : Ending} (h1 : cn ≤ 255) (h2 : vn ≤ 2147483647) (u : Value) (he : e = .returned (.tuple #[u, .int .i64 0])) (ho : OB w' w.heap.size 5 u 24 (repN key nc cn vn)) (hb : BW w w') : RepWPost key nc cn vn w e w' := ⟨.inl ⟨cn, vn, rfl, rfl, h1, h2, u, he, ho⟩, hb⟩
set_option maxRecDepth 100000 in
set_option maxHeartbeats 8000000 in
theorem repWrite_any (nc : Nat) (c v : Int) (sk : Option Addr) (nk ck : Nat) (key : List Nat) (w : World) (hnc : nc < 18446744073709551616) (hc : I64 c) (hv : I64 v) (hk : SB w (.slice sk nk ck) nk key) (hnk : nk ≤ 1000000) :
    Calls Try.prog 31 #[.agg #[.int .u64 (nc : Nat), .int .i64 c, .int .i64 v], .slice sk nk ck] w (RepWPost key nc c v w) := by
  obtain ⟨_, _, he, hkc, hkm⟩ := hk.len
  cases he
  unfold maxLen at hkm
  unfold I64 at hc hv
  have B1 : Hid (BW w (w.alloc (.cells #[.int .u64 (nc : Nat), .int .i64 c, .int .i64 v] 52))) := (BW.refl w).alloc
  have P1 := Lib.hid (HpB.new w (.cells #[.int .u64 (nc : Nat), .int .i64 c, .int .i64 v] 52))
  have K := Lib.hid hk
  clear hk
  go_enter Try.func31, Try.ntmps31
  go_upto_region 1 with (fail)
  generalize w.alloc (.cells #[.int .u64 (nc : Nat), .int .i64 c, .int .i64 v] 52) = w1 at *
  generalize hg : w.heap.size = g at *
  have z0 := hp_cell (P1.out) 0
  have z1 := hp_cell (P1.out) 1
  have z2 := hp_cell (P1.out) 2
  simp only [List.getElem?_toArray, List.getElem?_cons_zero, List.getElem?_cons_succ] at z0 z1 z2
  by_cases h1 : c < 0
  · have d1 : decide (c < 0) = true := decide_eq_true h1
    go_wp2_with fail
    go_ret2
    exact RepWPost.no (by omega) rfl B1.out
  have d1 : decide (c < 0) = false := decide_eq_false h1
  by_cases h2 : 255 < c
  · have d2 : decide (255 < c) = true := decide_eq_true h2
    go_wp2_with fail
    go_ret2
    exact RepWPost.no (by omega) rfl B1.out
  have d2 : decide (255 < c) = false := decide_eq_false h2
  by_cases h3 : v < 0
  · have d3 : decide (v < 0) = true := decide_eq_true h3
    go_wp2_with fail
    go_ret2
    exact RepWPost.no (by omega) rfl B1.out
  have d3 : decide (v < 0) = false := decide_eq_false h3
  by_cases h4 : 2147483647 < v
  · have d4 : decide (2147483647 < v) = true := decide_eq_true h4
    go_wp2_with fail
    go_ret2
    exact RepWPost.no (by omega) rfl B1.out
  have d4 : decide (2147483647 < v) = false := decide_eq_false h4
  obtain ⟨cn, rfl⟩ := Int.eq_ofNat_of_zero_le (show 0 ≤ c by omega)
  obtain ⟨vn, rfl⟩ := Int.eq_ofNat_of_zero_le (show 0 ≤ v by omega)
  go_upto_region 3 with (fail)
  have m0 : ∀ y : LaterS [] w1, _ := fun y => y.bw.cell z0
  have m1 : ∀ y : LaterS [] w1, _ := fun y => y.bw.cell z1
  have q1 : IntKind.u8.wrap (cn : Int) = (cn : Int) := IntWalk.u8_in _ (by omega)
  have gl : g < w1.heap.size := P1.out.lt
  clear z0 z1 z2
  refine wp_region_gg [] [] [8] (by kernel_rfl) ?_
  refine hoist [] [] (a1 := ?_) 1 rfl (by kernel_rfl) (.inl ⟨rfl, rfl⟩) rfl rfl rfl (fun x K hK => ?_) ?_
  rotate_left
  · go_big_quiet_op
    exact hK
  refine hoist [] [] (a1 := ?_) 2 rfl (by kernel_rfl) (.inl ⟨rfl, rfl⟩) rfl rfl rfl (fun x K hK => ?_) ?_
  rotate_left
  · go_big_quiet_op
    exact hK
  refine hoist [] [] (a1 := ?_) 4 rfl (by kernel_rfl) (.inl ⟨rfl, rfl⟩) rfl rfl rfl (fun x K hK => ?_) ?_
  rotate_left
  · go_big_quiet_op
    exact hK
  refine hoist [] [] (a1 := ?_) 5 rfl (by kernel_rfl) (.inl ⟨rfl, rfl⟩) rfl rfl rfl (fun x K hK => ?_) ?_
  rotate_left
  · go_big_quiet_op
    exact hK
  refine hoist [] [] (a1 := ?_) 6 rfl (by kernel_rfl) (.inl ⟨rfl, rfl⟩) rfl rfl rfl (fun x K hK => ?_) ?_
  rotate_left
  · go_big_quiet_op
    exact hK
  refine float 7 (fun g => .slice (some ⟨g, 0, none⟩) 1 1) (.cells #[.int .u8 (cn : Nat)] 5) rfl (by kernel_rfl) (by first | (intro k hk; cases hk) | assumption | omega) rfl (fun x => (by go_simp)) ?_
  refine effect 0 rfl (by kernel_rfl) (by kernel_rfl) rfl (fun x0 K hK => ?_)
  go_simp
  refine hK _ _ (Still.of_below ((Below.refl _ _).alloc (Nat.le_refl _) _)) ?_
  clear hK K
  have O0 : Hid (OB (x0.now.alloc (.cells #[.int .u8 200] 5)) 0 5 (.slice (some ⟨x0.now.heap.size, 0, none⟩) 1 1) 1 [200]) := Lib.hid (OB.new x0.now 0 [200] 1 (Nat.zero_le _) rfl (by decide) (fun y hy => by simp at hy; omega))
  have B0 : Hid (BW w1 (x0.now.alloc (.cells #[.int .u8 200] 5))) := x0.bw.alloc
  generalize x0.now.alloc (.cells #[.int .u8 200] 5) = w2 at *
  generalize x0.now.heap.size = g2 at *
  try simp only [Act.put, List.setIfInBounds_toArray, List.set_cons_succ, List.set_cons_zero]
  refine effect 3 rfl (by kernel_rfl) (by kernel_rfl) rfl (fun x3 K hK => ?_)
  go_simp
  refine Calls.mono (put_ok _ 1 [200] 8 nc 8 (by decide) (by decide) rfl hnc (by decide) x3.now (O0.out.bw x3.bw).sb) ?_
  rintro e w6 ⟨v6, rfl, O6, hb⟩
  obtain ⟨s6, c6, rfl, hc6, hm6⟩ := O6.len
  unfold maxLen at hm6
  refine hK _ _ (Still.of_below hb) ?_
  clear hK K
  have B6 := Lib.hid ((B0.out.trans x3.bw).trans hb)
  have O7 := Lib.hid (O6.up (B0.out.trans x3.bw).size)
  clear hb O6 O0 B0
  try simp only [Act.put, List.setIfInBounds_toArray, List.set_cons_succ, List.set_cons_zero]
  refine tailF 8 rfl (by kernel_rfl) rfl (fun xr => ?_)
  intro g7 hg7 hG7
  refine fin_nil ?_
  dsimp only at hg7 hG7
  try simp only [Act.put, List.setIfInBounds_toArray, List.set_cons_succ, List.set_cons_zero]
  simp only [List.drop_succ_cons, List.drop_zero]
  have B8 := Lib.hid (B6.out.trans xr.bw)
  have O8 := Lib.hid (O7.out.bw xr.bw)
  have S8 : Hid (SB xr.now (.slice (some ⟨g7, 0, none⟩) 1 1) 1 [cn]) := Lib.hid (SB_of_row (l := [cn]) hG7 (fun y hy => by simp at hy; omega) 1 1 (by simp) (Nat.le_refl _) (by decide))
  have hz8 := B8.out.size
  clear B6 O7 m0 m1 hG7 hg7
  generalize xr.now = w8 at *
  go_upto_region 4 with (at_builtin; go_must (refine wpList_apOB rfl _ _ rfl w1.heap.size _ 9 _ rfl O8.out _ rfl 1 _ S8.out (by omega) hz8 ?_; intro s12 c12 w12 hc12 hm12 O12 T12 B12 G12; unfold maxLen at hm12; replace O12 := Lib.hid O12; replace T12 := Lib.hid T12; clear G12 B12))
  have hO8 : ∀ j, (Value.slice s6 (1 + 8) c6).ownBlock = some j → w1.heap.size ≤ j := O8.out.ge'
  have B12 := Lib.hid (BW.stP B8.out T12.out (fun j hj => hO8 j (Option.mem_toList.1 hj)))
  have P12 := Lib.hid (P1.out.bw B12.out)
  have cP := Lib.hid (put_ok _ _ _ 4 vn 4 (by decide) (by decide) rfl (by omega) (by decide) w12 O12.out.sb)
  rw [show ([200] ++ putB 8 nc) ++ [cn] ++ putB 4 vn = repBody nc cn vn from rfl] at cP
  simp only [Nat.reduceAdd] at cP hc12 ⊢
  clear O8 S8 T12 hO8 hz8 B8 O12
  have z0 := hp_cell (P12.out) 0
  have z1 := hp_cell (P12.out) 1
  have z2 := hp_cell (P12.out) 2
  simp only [List.getElem?_toArray, List.getElem?_cons_zero, List.getElem?_cons_succ] at z0 z1 z2
  have q2 : IntKind.u64.wrap (vn : Int) = (vn : Int) := IntWalk.u64_in _ (by omega)
  go_wp2_with fail
  refine Calls.mono cP.out ?_
  rintro e w13 ⟨v13, rfl, O13, hb⟩
  have B13 := Lib.hid ((B1.out.trans B12.out).trans hb)
  obtain ⟨s13, c13, rfl, _, _⟩ := O13.len
  have cT := Lib.hid (tagged_any s13 14 c13 _ sk nk ck key w13 O13.sb (K.out.bw B13.out) (by decide) hnk)
  clear z0 z1 z2
  clear cP O13 hb q2
  dsimp only
  go_wp2_with fail
  refine Calls.mono cT.out ?_
  rintro e w14 ⟨v14, rfl, O14, hb⟩
  have O15 := Lib.hid (O14.up B13.out.size)
  have B15 := Lib.hid (B13.out.trans hb)
  obtain ⟨s14, c14, rfl, _, _⟩ := O14.len
  clear cT O14 hb
  dsimp only
  go_wp2_with fail
  go_ret2
  exact RepWPost.yes (by omega) (by omega) _ rfl O15.out B15.out
end Go.Proofs.Ytcempndfbckcaaa

namespace Go.Proofs.Ytcempndfbckcaaa
open Go.RowKit

def RepRWPost (key : List Nat) (nc : Nat) (c v : Int) (w : World) (e : Ending) (w' : World) : Prop :=
  ((∃ cn vn : Nat, c = cn ∧ v = vn ∧ cn ≤ 255 ∧ vn ≤ 2147483647 ∧ ∃ u, e = .returned (.tuple #[u, .bool true]) ∧ OB w' w.heap.size 5 u 24 (repN key nc cn vn)) ∨ (¬ (0 ≤ c ∧ c ≤ 255 ∧ 0 ≤ v ∧ v ≤ 2147483647) ∧ e = .returned (.tuple #[.slice none 0 0, .bool false]))) ∧ BW w w'
theorem RepRWPost.no {key : List Nat} {nc : Nat} {c v : Int} {w w' : World} {e : Ending} (h : ¬ (0 ≤ c ∧ c ≤ 255 ∧ 0 ≤ v ∧ v ≤ 2147483647)) (he : e = .returned (.tuple #[.slice none 0 0, .bool false])) (hb : BW w w') : RepRWPost key nc c v w e w' := ⟨.inr ⟨h, he⟩, hb⟩
theorem RepRWPost.yes {key : List Nat} {nc cn vn : Nat} {w w' : World} {e : Ending} (h1 : cn ≤ 255) (h2 : vn ≤ 2147483647) (u : Value) (he : e = .returned (.tuple #[u, .bool true])) (ho : OB w' w.heap.size 5 u 24 (repN key nc cn vn)) (hb : BW w w') : RepRWPost key nc cn vn w e w' := ⟨.inl ⟨cn, vn, rfl, rfl, h1, h2, u, he, ho⟩, hb⟩
set_option maxRecDepth 100000 in
set_option maxHeartbeats 8000000 in
theorem repRWrite_any (nc : Nat) (c v : Int) (sk : Option Addr) (nk ck : Nat) (key : List Nat) (w : World) (hnc : nc < 18446744073709551616) (hc : I64 c) (hv : I64 v) (hk : SB w (.slice sk nk ck) nk key) (hnk : nk ≤ 1000000) :
    Calls Try.prog 32 #[.agg #[.int .u64 (nc : Nat), .int .i64 c, .int .i64 v], .slice sk nk ck] w (RepRWPost key nc c v w) := by
  obtain ⟨_, _, he, hkc, hkm⟩ := hk.len
  cases he
  unfold maxLen at hkm
  unfold I64 at hc hv
  have B1 : Hid (BW w (w.alloc (.cells #[.int .u64 (nc : Nat), .int .i64 c, .int .i64 v] 52))) := (BW.refl w).alloc
  have P1 := Lib.hid (HpB.new w (.cells #[.int .u64 (nc : Nat), .int .i64 c, .int .i64 v] 52))
  have K := Lib.hid hk
  clear hk
  go_enter Try.func32, Try.ntmps32
  go_upto_region 1 with (fail)
  generalize w.alloc (.cells #[.int .u64 (nc : Nat), .int .i64 c, .int .i64 v] 52) = w1 at *
  generalize hg : w.heap.size = g at *
  have z0 := hp_cell (P1.out) 0
  have z1 := hp_cell (P1.out) 1
  have z2 := hp_cell (P1.out) 2
  simp only [List.getElem?_toArray, List.getElem?_cons_zero, List.getElem?_cons_succ] at z0 z1 z2
  by_cases h1 : c < 0
  · have d1 : decide (c < 0) = true := decide_eq_true h1
    go_wp2_with fail
    go_ret2
    exact RepRWPost.no (by omega) rfl B1.out
  have d1 : decide (c < 0) = false := decide_eq_false h1
  by_cases h2 : 255 < c
  · have d2 : decide (255 < c) = true := decide_eq_true h2
    go_wp2_with fail
    go_ret2
    exact RepRWPost.no (by omega) rfl B1.out
  have d2 : decide (255 < c) = false := decide_eq_false h2
  by_cases h3 : v < 0
  · have d3 : decide (v < 0) = true := decide_eq_true h3
    go_wp2_with fail
    go_ret2
    exact RepRWPost.no (by omega) rfl B1.out
  have d3 : decide (v < 0) = false := decide_eq_false h3
  by_cases h4 : 2147483647 < v
  · have d4 : decide (2147483647 < v) = true := decide_eq_true h4
    go_wp2_with fail
    go_ret2
    exact RepRWPost.no (by omega) rfl B1.out
  have d4 : decide (2147483647 < v) = false := decide_eq_false h4
  obtain ⟨cn, rfl⟩ := Int.eq_ofNat_of_zero_le (show 0 ≤ c by omega)
  obtain ⟨vn, rfl⟩ := Int.eq_ofNat_of_zero_le (show 0 ≤ v by omega)
  go_upto_region 3 with (fail)
  have m0 : ∀ y : LaterS [] w1, _ := fun y => y.bw.cell z0
  have m1 : ∀ y : LaterS [] w1, _ := fun y => y.bw.cell z1
  have q1 : IntKind.u8.wrap (cn : Int) = (cn : Int) := IntWalk.u8_in _ (by omega)
  have gl : g < w1.heap.size := P1.out.lt
  clear z0 z1 z2
  refine wp_region_gg [] [] [8] (by kernel_rfl) ?_
  refine hoist [] [] (a1 := ?_) 1 rfl (by kernel_rfl) (.inl ⟨rfl, rfl⟩) rfl rfl rfl (fun x K hK => ?_) ?_
  rotate_left
  · go_big_quiet_op
    exact hK
  refine hoist [] [] (a1 := ?_) 2 rfl (by kernel_rfl) (.inl ⟨rfl, rfl⟩) rfl rfl rfl (fun x K hK => ?_) ?_
  rotate_left
  · go_big_quiet_op
    exact hK
  refine hoist [] [] (a1 := ?_) 4 rfl (by kernel_rfl) (.inl ⟨rfl, rfl⟩) rfl rfl rfl (fun x K hK => ?_) ?_
  rotate_left
  · go_big_quiet_op
    exact hK
  refine hoist [] [] (a1 := ?_) 5 rfl (by kernel_rfl) (.inl ⟨rfl, rfl⟩) rfl rfl rfl (fun x K hK => ?_) ?_
  rotate_left
  · go_big_quiet_op
    exact hK
  refine hoist [] [] (a1 := ?_) 6 rfl (by kernel_rfl) (.inl ⟨rfl, rfl⟩) rfl rfl rfl (fun x K hK => ?_) ?_
  rotate_left
  · go_big_quiet_op
    exact hK
  refine float 7 (fun g => .slice (some ⟨g, 0, none⟩) 1 1) (.cells #[.int .u8 (cn : Nat)] 5) rfl (by kernel_rfl) (by first | (intro k hk; cases hk) | assumption | omega) rfl (fun x => (by go_simp)) ?_
  refine effect 0 rfl (by kernel_rfl) (by kernel_rfl) rfl (fun x0 K hK => ?_)
  go_simp
  refine hK _ _ (Still.of_below ((Below.refl _ _).alloc (Nat.le_refl _) _)) ?_
  clear hK K
  have O0 : Hid (OB (x0.now.alloc (.cells #[.int .u8 200] 5)) 0 5 (.slice (some ⟨x0.now.heap.size, 0, none⟩) 1 1) 1 [200]) := Lib.hid (OB.new x0.now 0 [200] 1 (Nat.zero_le _) rfl (by decide) (fun y hy => by simp at hy; omega))
  have B0 : Hid (BW w1 (x0.now.alloc (.cells #[.int .u8 200] 5))) := x0.bw.alloc
  generalize x0.now.alloc (.cells #[.int .u8 200] 5) = w2 at *
  generalize x0.now.heap.size = g2 at *
  try simp only [Act.put, List.setIfInBounds_toArray, List.set_cons_succ, List.set_cons_zero]
  refine effect 3 rfl (by kernel_rfl) (by kernel_rfl) rfl (fun x3 K hK => ?_)
  go_simp
  refine Calls.mono (rput_ok _ 1 [200] 8 nc 8 (by decide) (by decide) rfl hnc (by decide) x3.now (O0.out.bw x3.bw).sb) ?_
  rintro e w6 ⟨v6, rfl, O6, hb⟩
  obtain ⟨s6, c6, rfl, hc6, hm6⟩ := O6.len
  unfold maxLen at hm6
  refine hK _ _ (Still.of_below hb) ?_
  clear hK K
  have B6 := Lib.hid ((B0.out.trans x3.bw).trans hb)
  have O7 := Lib.hid (O6.up (B0.out.trans x3.bw).size)
  clear hb O6 O0 B0
  try simp only [Act.put, List.setIfInBounds_toArray, List.set_cons_succ, List.set_cons_zero]
  refine tailF 8 rfl (by kernel_rfl) rfl (fun xr => ?_)
  intro g7 hg7 hG7
  refine fin_nil ?_
  dsimp only at hg7 hG7
  try simp only [Act.put, List.setIfInBounds_toArray, List.set_cons_succ, List.set_cons_zero]
  simp only [List.drop_succ_cons, List.drop_zero]
  have B8 := Lib.hid (B6.out.trans xr.bw)
  have O8 := Lib.hid (O7.out.bw xr.bw)
  have S8 : Hid (SB xr.now (.slice (some ⟨g7, 0, none⟩) 1 1) 1 [cn]) := Lib.hid (SB_of_row (l := [cn]) hG7 (fun y hy => by simp at hy; omega) 1 1 (by simp) (Nat.le_refl _) (by decide))
  have hz8 := B8.out.size
  clear B6 O7 m0 m1 hG7 hg7
  generalize xr.now = w8 at *
  go_upto_region 4 with (at_builtin; go_must (refine wpList_apOB rfl _ _ rfl w1.heap.size _ 9 _ rfl O8.out _ rfl 1 _ S8.out (by omega) hz8 ?_; intro s12 c12 w12 hc12 hm12 O12 T12 B12 G12; unfold maxLen at hm12; replace O12 := Lib.hid O12; replace T12 := Lib.hid T12; clear G12 B12))
  have hO8 : ∀ j, (Value.slice s6 (1 + 8) c6).ownBlock = some j → w1.heap.size ≤ j := O8.out.ge'
  have B12 := Lib.hid (BW.stP B8.out T12.out (fun j hj => hO8 j (Option.mem_toList.1 hj)))
  have P12 := Lib.hid (P1.out.bw B12.out)
  have cP := Lib.hid (rput_ok _ _ _ 4 vn 4 (by decide) (by decide) rfl (by omega) (by decide) w12 O12.out.sb)
  rw [show ([200] ++ putB 8 nc) ++ [cn] ++ putB 4 vn = repBody nc cn vn from rfl] at cP
  simp only [Nat.reduceAdd] at cP hc12 ⊢
  clear O8 S8 T12 hO8 hz8 B8 O12
  have z0 := hp_cell (P12.out) 0
  have z1 := hp_cell (P12.out) 1
  have z2 := hp_cell (P12.out) 2
  simp only [List.getElem?_toArray, List.getElem?_cons_zero, List.getElem?_cons_succ] at z0 z1 z2
  have q2 : IntKind.u64.wrap (vn : Int) = (vn : Int) := IntWalk.u64_in _ (by omega)
  go_wp2_with fail
  refine Calls.mono cP.out ?_
  rintro e w13 ⟨v13, rfl, O13, hb⟩
  have B13 := Lib.hid ((B1.out.trans B12.out).trans hb)
  obtain ⟨s13, c13, rfl, _, _⟩ := O13.len
  have O13' := Lib.hid (O13.up B12.out.size)
  clear z0 z1 z2
  clear cP q2
  have cT := Lib.hid (rtag_ok sk nk ck s13 14 c13 10 key _ (by decide) (by decide) (by omega) (by decide) w13 (K.out.bw B13.out) O13.sb)
  simp only [show (10 : Int).toNat = 10 from rfl, show min 10 20 = 10 from rfl] at cT
  have hN : repN key nc cn vn = repBody nc cn vn ++ (hmacN key (repBody nc cn vn)).take 10 := rfl
  generalize (hmacN key (repBody nc cn vn)).take 10 = T at *
  have hz13 := O13'.out.ge'
  have hzz := (B12.out.trans hb).size
  have Bb := Lib.hid (B12.out.trans hb)
  have hz1 := B1.out.size
  clear O13 hb
  replace hN := Lib.hid hN
  replace hz13 := Lib.hid hz13
  dsimp only
  go_wp2_with fail
  refine Calls.mono cT.out ?_
  rintro e w14 ⟨v14, rfl, O14, hb⟩
  obtain ⟨s14, c14, rfl, hc14, hm14⟩ := O14.len
  unfold maxLen at hm14
  have S14 := Lib.hid O14.sb
  have OO := Lib.hid (O13'.out.bw hb)
  have B15 := Lib.hid (Bb.out.trans hb)
  have hz15 := B15.out.size
  clear cT O14 hb O13' Bb
  dsimp only
  go_wp2_with (at_builtin; go_must (refine wpList_apOB rfl _ _ rfl w1.heap.size _ _ _ rfl OO.out _ rfl 10 _ S14.out (by decide) hz15 ?_; intro s16 c16 w16 hc16 hm16 O16 T16 B16 G16; unfold maxLen at hm16; replace O16 := Lib.hid O16; replace T16 := Lib.hid T16; clear G16 B16))
  have B16 := Lib.hid (BW.stP B15.out T16.out (fun j hj => OO.out.ge' j (Option.mem_toList.1 hj)))
  rw [← hN.out] at O16
  go_ret2
  exact RepRWPost.yes (by omega) (by omega) _ rfl (O16.out.up hz1) (B1.out.trans B16.out)
end Go.Proofs.Ytcempndfbckcaaa

namespace Go.Proofs.Ytcempndfbckcaaa
open Go.RowKit

theorem still_st3 (w : World) (z : Nat) (v0 v1 v2 : Value) : Still [z] w (((w.setCell ⟨z, 0, none⟩ v0).setCell ⟨z, 1, none⟩ v1).setCell ⟨z, 2, none⟩ v2) := (((still_sc w z 0 v0).trans (still_sc _ z 1 v1)).trans (still_sc _ z 2 v2))
theorem st3_arr (c : Array Value) (hc : c.size = 3) (v0 v1 v2 : Value) : (((c.setIfInBounds 0 v0).setIfInBounds 1 v1).setIfInBounds 2 v2) = #[v0, v1, v2] := by
  obtain ⟨l⟩ := c
  match l, hc with
  | [_, _, _], _ => simp only [List.setIfInBounds_toArray, List.set_cons_zero, List.set_cons_succ]
theorem HpB.st3 {w : World} {z : Nat} {c : Array Value} {T : TypeId} (h : HpB w z (.cells c T)) (hc : c.size = 3) (v0 v1 v2 : Value) : HpB (((w.setCell ⟨z, 0, none⟩ v0).setCell ⟨z, 1, none⟩ v1).setCell ⟨z, 2, none⟩ v2) z (.cells #[v0, v1, v2] T) := by
  have k := (hp_set (hp_set (hp_set h 0 v0) 1 v1) 2 v2)
  rw [st3_arr c hc] at k
  exact k
theorem zeroR (w : World) : (zeroValue 52).run Try.prog w = .ok (.agg #[.int .u64 0, .int .i64 0, .int .i64 0]) w := by kernel_rfl
structure RepR where
  err : Nat
  nc : Nat
  c : Nat
  v : Nat
/-- What bytes are read as. -/
def repRd (key l : List Nat) : RepR :=
  if l.length < 24 then ⟨2, 0, 0, 0⟩
  else if 24 < l.length ∨ l.getD 0 0 ≠ 200 ∨ 127 < l.getD 10 0 then ⟨3, 0, 0, 0⟩
  else if goodB key (l.take 14) (l.drop 14) = true then ⟨0, numB ((l.drop 1).take 8), l.getD 9 0, numB ((l.drop 10).take 4)⟩ else ⟨4, 0, 0, 0⟩
def RepRdPost (R : RepR) (w : World) (e : Ending) (w' : World) : Prop := e = .returned (.tuple #[.agg #[.int .u64 (R.nc : Nat), .int .i64 (R.c : Nat), .int .i64 (R.v : Nat)], .int .i64 (R.err : Nat)]) ∧ BW w w'
theorem RepRdPost.mk {R S : RepR} {w w' : World} {e : Ending} (h : R = S) (he : e = .returned (.tuple #[.agg #[.int .u64 (S.nc : Nat), .int .i64 (S.c : Nat), .int .i64 (S.v : Nat)], .int .i64 (S.err : Nat)])) (hb : BW w w') : RepRdPost R w e w' := by subst h; exact ⟨he, hb⟩
theorem rep_iff {key l : List Nat} (hb : ByL l) (hl : l.length = 24) (h0 : l.getD 0 0 = 200) : (repN key (numB ((l.drop 1).take 8)) (l.getD 9 0) (numB ((l.drop 10).take 4)) = l) ↔ goodB key (l.take 14) (l.drop 14) = true := by
  have e14 : repBody (numB ((l.drop 1).take 8)) (l.getD 9 0) (numB ((l.drop 10).take 4)) = l.take 14 := by
    unfold repBody
    rw [putnum hb (by omega), putnum hb (by omega)]
    have e1 : l.take 14 = (l.drop 0).take (1 + (8 + (1 + 4))) := by rw [List.drop_zero]
    rw [e1, List.take_add, List.take_add, List.take_add, List.drop_drop, List.drop_drop, List.drop_drop, take_cons 0 (by omega), take_cons 0 (by omega), h0]
    simp
  unfold repN tagB
  rw [e14]
  have ht : (l.drop 14).length = 10 := by rw [List.length_drop]; omega
  unfold goodB
  rw [ht]
  simp only [show decide (1 ≤ 10) = true from rfl, show decide (10 ≤ 20) = true from rfl, Bool.true_and, decide_eq_true_iff]
  constructor
  · intro h
    have h2 := congrArg (List.drop 14) h
    rw [List.drop_append_of_le_length (by rw [List.length_take]; omega), List.drop_of_length_le (by rw [List.length_take]; omega), List.nil_append] at h2
    exact h2.symm
  · intro h
    rw [← h, List.take_append_drop]
set_option maxRecDepth 100000 in
set_option maxHeartbeats 8000000 in
theorem repRead_any (sb : Option Addr) (n cb : Nat) (l : List Nat) (sk : Option Addr) (nk ck : Nat) (key : List Nat) (w : World) (h : SB w (.slice sb n cb) n l) (hk : SB w (.slice sk nk ck) nk key) (hn : n ≤ 1000000) (hnk : nk ≤ 1000000) :
    Calls Try.prog 29 #[.slice sb n cb, .slice sk nk ck] w (RepRdPost (repRd key l) w) := by
  have hR : repRd key l = if n < 24 then ⟨2, 0, 0, 0⟩ else if 24 < n ∨ l.getD 0 0 ≠ 200 ∨ 127 < l.getD 10 0 then ⟨3, 0, 0, 0⟩ else if goodB key (l.take 14) (l.drop 14) = true then ⟨0, numB ((l.drop 1).take 8), l.getD 9 0, numB ((l.drop 10).take 4)⟩ else ⟨4, 0, 0, 0⟩ := by rw [← h.1]; rfl
  have hIff := fun (h1 : l.length = 24) (h2 : l.getD 0 0 = 200) => rep_iff (key := key) h.2.1 h1 h2
  obtain ⟨RR, hRR⟩ : ∃ RR, repRd key l = RR := ⟨_, rfl⟩
  rw [hRR] at hR ⊢
  clear hRR
  obtain ⟨_, _, he, hc, hm⟩ := h.len
  cases he
  obtain ⟨_, _, he, hkc, hkm⟩ := hk.len
  cases he
  unfold maxLen at hm hkm
  have hby := fun i => ByL.get h.2.1 i
  have hll := h.1
  have SBl := Lib.hid h.2.1
  have Z : Hid (HpB (w.alloc (.cells #[.int .u64 0, .int .i64 0, .int .i64 0] 52)) w.heap.size (.cells #[.int .u64 0, .int .i64 0, .int .i64 0] 52)) := HpB.new w _
  have B : Hid (BW w (w.alloc (.cells #[.int .u64 0, .int .i64 0, .int .i64 0] 52))) := (BW.refl w).alloc
  have V := Lib.hid h
  have KY := Lib.hid hk
  clear h hk
  replace hR := Lib.hid hR
  replace hby := Lib.hid hby
  replace hll := Lib.hid hll
  replace hIff := Lib.hid hIff
  go_enter Try.func29, Try.ntmps29
  go_upto_region 1 with (fail)
  generalize w.alloc (.cells #[.int .u64 0, .int .i64 0, .int .i64 0] 52) = w1 at *
  by_cases h1 : n < 24
  · have d : decide ((n : Int) < 24) = true := by simp; omega
    have hRd := Lib.hid (hR.out.trans (if_pos h1))
    go_upto_region 2 with (fail)
    have z0 := hp_cell (Z.out) 0
    have y0 := hp_frz (Z.out) 0
    have z1 := hp_cell (Z.out) 1
    have y1 := hp_frz (Z.out) 1
    have z2 := hp_cell (Z.out) 2
    have y2 := hp_frz (Z.out) 2
    simp only [List.getElem?_toArray, List.getElem?_cons_zero, List.getElem?_cons_succ] at z0 z1 z2
    go_wp2_with fail
    clear z0 z1 z2 y0 y1 y2
    have TS := still_st3 w1 w.heap.size (.int .u64 0) (.int .i64 0) (.int .i64 0)
    have Z4 := Z.out.st3 rfl (.int .u64 0) (.int .i64 0) (.int .i64 0)
    have T4 := B.out.stP TS (by simp)
    have z0 := hp_cell (Z4) 0
    have z1 := hp_cell (Z4) 1
    have z2 := hp_cell (Z4) 2
    simp only [List.getElem?_toArray, List.getElem?_cons_zero, List.getElem?_cons_succ] at z0 z1 z2
    replace Z4 := Lib.hid Z4
    replace TS := Lib.hid TS
    replace T4 := Lib.hid T4
    exact bodyPost_ret (v := .tuple #[.agg #[.int .u64 0, .int .i64 0, .int .i64 0], .int .i64 2]) (by simp [results, Try.results29, go_sem, z0, z1, z2]) rfl (RepRdPost.mk hRd.out rfl T4.out)
  have d : decide ((n : Int) < 24) = false := by simp; omega
  have hR2 := hR.out
  rw [if_neg h1] at hR2
  clear hR
  by_cases h24 : 24 < n
  · have d2 : decide ((24 : Int) < (n : Int)) = true := by simp; omega
    have hRd := Lib.hid (hR2.trans (if_pos (.inl h24)))
    clear hR2
    go_upto_region 4 with (fail)
    have z0 := hp_cell (Z.out) 0
    have y0 := hp_frz (Z.out) 0
    have z1 := hp_cell (Z.out) 1
    have y1 := hp_frz (Z.out) 1
    have z2 := hp_cell (Z.out) 2
    have y2 := hp_frz (Z.out) 2
    simp only [List.getElem?_toArray, List.getElem?_cons_zero, List.getElem?_cons_succ] at z0 z1 z2
    go_wp2_with fail
    clear z0 z1 z2 y0 y1 y2
    have TS := still_st3 w1 w.heap.size (.int .u64 0) (.int .i64 0) (.int .i64 0)
    have Z4 := Z.out.st3 rfl (.int .u64 0) (.int .i64 0) (.int .i64 0)
    have T4 := B.out.stP TS (by simp)
    have z0 := hp_cell (Z4) 0
    have z1 := hp_cell (Z4) 1
    have z2 := hp_cell (Z4) 2
    simp only [List.getElem?_toArray, List.getElem?_cons_zero, List.getElem?_cons_succ] at z0 z1 z2
    replace Z4 := Lib.hid Z4
    replace TS := Lib.hid TS
    replace T4 := Lib.hid T4
    exact bodyPost_ret (v := .tuple #[.agg #[.int .u64 0, .int .i64 0, .int .i64 0], .int .i64 3]) (by simp [results, Try.results29, go_sem, z0, z1, z2]) rfl (RepRdPost.mk hRd.out rfl T4.out)
  have d2 : decide ((24 : Int) < (n : Int)) = false := by simp; omega
  obtain rfl : n = 24 := by omega
  obtain ⟨b, o, cap', he, _, _, hbw, hcell⟩ := V.out.form (by omega)
  cases he
  have x0 := B.out.cell (hcell 0 (by omega))
  have x9 := B.out.cell (hcell 9 (by omega))
  have x10 := B.out.cell (hcell 10 (by omega))
  rw [Nat.add_zero] at x0
  have l0 := hby.out 0
  have l9 := hby.out 9
  have l10 := hby.out 10
  replace hIff := Lib.hid (fun h2 => hIff.out hll.out h2)
  have hvb : l.getD 10 0 ≤ 127 → numB ((l.drop 10).take 4) ≤ 2147483647 := fun h => by
    have e : (l.drop 10).take 4 = l.getD 10 0 :: (l.drop 11).take 3 := take_cons 3 (by rw [hll.out]; decide)
    rw [e, numB_cons]
    have h3 : ((l.drop 11).take 3).length = 3 := by rw [List.length_take, List.length_drop, hll.out]; rfl
    have := numB_lt ((l.drop 11).take 3) ((SBl.out.drop _).take _)
    rw [h3] at this ⊢
    omega
  clear hcell
  generalize l.getD 0 0 = b0 at *
  generalize l.getD 9 0 = b9 at *
  generalize l.getD 10 0 = b10 at *
  by_cases h0 : b0 = 200
  case neg =>
    have q : ((b0 : Int) != 200) = true := by rw [bne_iff_ne]; omega
    have hRd := Lib.hid (hR2.trans (if_pos (.inr (.inl h0))))
    clear hR2 hIff
    replace h0 := Lib.hid h0
    go_upto_region 4 with (fail)
    have z0 := hp_cell (Z.out) 0
    have y0 := hp_frz (Z.out) 0
    have z1 := hp_cell (Z.out) 1
    have y1 := hp_frz (Z.out) 1
    have z2 := hp_cell (Z.out) 2
    have y2 := hp_frz (Z.out) 2
    simp only [List.getElem?_toArray, List.getElem?_cons_zero, List.getElem?_cons_succ] at z0 z1 z2
    go_wp2_with fail
    clear z0 z1 z2 y0 y1 y2
    have TS := still_st3 w1 w.heap.size (.int .u64 0) (.int .i64 0) (.int .i64 0)
    have Z4 := Z.out.st3 rfl (.int .u64 0) (.int .i64 0) (.int .i64 0)
    have T4 := B.out.stP TS (by simp)
    have z0 := hp_cell (Z4) 0
    have z1 := hp_cell (Z4) 1
    have z2 := hp_cell (Z4) 2
    simp only [List.getElem?_toArray, List.getElem?_cons_zero, List.getElem?_cons_succ] at z0 z1 z2
    replace Z4 := Lib.hid Z4
    replace TS := Lib.hid TS
    replace T4 := Lib.hid T4
    exact bodyPost_ret (v := .tuple #[.agg #[.int .u64 0, .int .i64 0, .int .i64 0], .int .i64 3]) (by simp [results, Try.results29, go_sem, z0, z1, z2]) rfl (RepRdPost.mk hRd.out rfl T4.out)
  have q : ((b0 : Int) != 200) = false := by rw [bne_eq_false_iff_eq]; omega
  replace hIff := Lib.hid (hIff.out h0)
  by_cases h127 : 127 < b10
  · have d3 : decide ((127 : Int) < (b10 : Int)) = true := by simp; omega
    have hRd := Lib.hid (hR2.trans (if_pos (.inr (.inr h127))))
    clear hR2
    replace h0 := Lib.hid h0
    go_upto_region 4 with (fail)
    have z0 := hp_cell (Z.out) 0
    have y0 := hp_frz (Z.out) 0
    have z1 := hp_cell (Z.out) 1
    have y1 := hp_frz (Z.out) 1
    have z2 := hp_cell (Z.out) 2
    have y2 := hp_frz (Z.out) 2
    simp only [List.getElem?_toArray, List.getElem?_cons_zero, List.getElem?_cons_succ] at z0 z1 z2
    go_wp2_with fail
    clear z0 z1 z2 y0 y1 y2
    have TS := still_st3 w1 w.heap.size (.int .u64 0) (.int .i64 0) (.int .i64 0)
    have Z4 := Z.out.st3 rfl (.int .u64 0) (.int .i64 0) (.int .i64 0)
    have T4 := B.out.stP TS (by simp)
    have z0 := hp_cell (Z4) 0
    have z1 := hp_cell (Z4) 1
    have z2 := hp_cell (Z4) 2
    simp only [List.getElem?_toArray, List.getElem?_cons_zero, List.getElem?_cons_succ] at z0 z1 z2
    replace Z4 := Lib.hid Z4
    replace TS := Lib.hid TS
    replace T4 := Lib.hid T4
    exact bodyPost_ret (v := .tuple #[.agg #[.int .u64 0, .int .i64 0, .int .i64 0], .int .i64 3]) (by simp [results, Try.results29, go_sem, z0, z1, z2]) rfl (RepRdPost.mk hRd.out rfl T4.out)
  have d3 : decide ((127 : Int) < (b10 : Int)) = false := by simp; omega
  replace hvb := hvb (by omega)
  rw [if_neg (by omega)] at hR2
  clear h24
  obtain ⟨nc, hnc⟩ : ∃ nc, numB ((l.drop 1).take 8) = nc := ⟨_, rfl⟩
  obtain ⟨v, hv⟩ : ∃ v, numB ((l.drop 10).take 4) = v := ⟨_, rfl⟩
  have hncb : nc < 18446744073709551616 := by
    rw [← hnc]
    have h8 : ((l.drop 1).take 8).length = 8 := by rw [List.length_take, List.length_drop, hll.out]; rfl
    have := numB_lt ((l.drop 1).take 8) ((SBl.out.drop _).take _)
    rw [h8] at this
    exact this
  rw [hnc, hv] at hR2 hIff
  rw [hv] at hvb
  replace h0 := Lib.hid h0
  replace hR2 := Lib.hid hR2
  replace hnc := Lib.hid hnc
  replace hv := Lib.hid hv
  have r1 := fun w => run_cut_l (P := Try.prog) Try.underlying36 info_u8 (some ⟨b, o, none⟩) 24 cb 14 14 rfl .i64 (by decide) w
  have r2 := fun w => run_cut_h (P := Try.prog) Try.underlying36 info_u8 (some ⟨b, o, none⟩) 24 cb 14 14 rfl .i64 (by omega) w
  have SBody := Lib.hid (sb_take V.out 14 (by decide))
  have STag := V.out.cut 14 24 cb (by decide) (Nat.le_refl _) hc (Nat.le_refl _)
  rw [show (l.drop 14).take (24 - 14) = l.drop 14 from List.take_of_length_le (by rw [List.length_drop, hll.out]; decide)] at STag
  generalize cutA (some ⟨b, o, none⟩) 14 cb 1 = st at *
  have h14 : (l.take 14).length = 14 := by rw [List.length_take, hll.out]; rfl
  replace STag := Lib.hid STag
  replace h14 := Lib.hid h14
  go_upto_region 5 with (fail)
  clear x0 q d d2 d3
  refine wp_region_gg [] [] [] (by kernel_rfl) ?_
  refine hoist [] [] (a1 := ?_) 0 rfl (by kernel_rfl) (.inl ⟨rfl, rfl⟩) rfl rfl rfl (fun x K hK => ?_) ?_
  rotate_left
  · go_big_quiet_op
    exact hK
  refine hoist [] [] (a1 := ?_) 1 rfl (by kernel_rfl) (.inl ⟨rfl, rfl⟩) rfl rfl rfl (fun x K hK => ?_) ?_
  rotate_left
  · go_big_quiet_op
    exact hK
  refine hoist [] [] (a1 := ?_) 2 rfl (by kernel_rfl) (.inl ⟨rfl, rfl⟩) rfl rfl rfl (fun x K hK => ?_) ?_
  rotate_left
  · go_big_quiet_op
    exact hK
  refine hoist [] [] (a1 := ?_) 3 rfl (by kernel_rfl) (.inl ⟨rfl, rfl⟩) rfl rfl rfl (fun x K hK => ?_) ?_
  rotate_left
  · go_big_quiet_op
    exact hK
  refine hoist [] [] (a1 := ?_) 4 rfl (by kernel_rfl) (.inl ⟨rfl, rfl⟩) rfl rfl rfl (fun x K hK => ?_) ?_
  rotate_left
  · go_big_quiet_op
    exact hK
  refine effect 5 rfl (by kernel_rfl) (by kernel_rfl) rfl (fun x5 K hK => ?_)
  go_simp
  refine hK _ _ (Still.of_below ((Below.refl _ _).alloc (Nat.le_refl _) _)) ?_
  clear hK K
  have M5 := Lib.hid (SM.one x5.now _ _ _ (SBody.out.bw (B.out.trans x5.bw)))
  have B5 : Hid (BW w1 (x5.now.alloc (.cells #[.slice (some ⟨b, o, none⟩) 14 cb] 36))) := x5.bw.alloc
  generalize x5.now.alloc (.cells #[.slice (some ⟨b, o, none⟩) 14 cb] 36) = w2 at *
  generalize x5.now.heap.size = g2 at *
  try simp only [Act.put, List.setIfInBounds_toArray, List.set_cons_succ, List.set_cons_zero]
  refine effect 6 rfl (by kernel_rfl) (by kernel_rfl) rfl (fun x6 K hK => ?_)
  go_simp
  have cC := Lib.hid (check_ok sk nk ck st (24 - 14) (cb - 14) _ 1 1 key (l.drop 14) [l.take 14] (by omega) (by decide) (by simp; omega) x6.now (KY.out.bw ((B.out.trans B5.out).trans x6.bw)) (STag.out.bw ((B.out.trans B5.out).trans x6.bw)) (M5.out.bw x6.bw))
  simp only [List.flatten_cons, List.flatten_nil, List.append_nil] at cC
  refine Calls.mono cC.out ?_
  rintro e w6 ⟨rfl, hb⟩
  refine hK _ _ (Still.of_below hb) ?_
  clear hK K cC
  have B6 := Lib.hid ((B5.out.trans x6.bw).trans hb)
  clear hb B5 M5
  try simp only [Act.put, List.setIfInBounds_toArray, List.set_cons_succ, List.set_cons_zero]
  refine hoist [] [] (a1 := ?_) 7 rfl (by kernel_rfl) (.inl ⟨rfl, rfl⟩) rfl rfl rfl (fun x K hK => ?_) ?_
  rotate_left
  · go_big_quiet_op
    exact hK
  refine hoist [] [] (a1 := ?_) 8 rfl (by kernel_rfl) (.inl ⟨rfl, rfl⟩) rfl rfl rfl (fun x K hK => ?_) ?_
  rotate_left
  · go_big_quiet_op
    exact hK
  refine done (by kernel_rfl) (fun xr => ?_)
  have B7 := Lib.hid (B.out.trans (B6.out.trans xr.bw))
  have Z7 := Lib.hid (Z.out.bw (B6.out.trans xr.bw))
  have x9' := (B6.out.trans xr.bw).cell x9
  clear B6 B Z x9 x10 r1 r2
  generalize xr.now = w7 at *
  cases hgd : goodB key (l.take 14) (l.drop 14) with
  | false =>
    have hRd := Lib.hid (hR2.out.trans (by rw [hgd, if_neg (by decide)]))
    have B := B7
    have Z := Z7
    clear B7 Z7
    obtain ⟨wb, rfl⟩ : ∃ x, x = w7 := ⟨_, rfl⟩
    replace hgd := Lib.hid hgd
    go_upto_region 6 with (fail)
    have z0 := hp_cell (Z.out) 0
    have y0 := hp_frz (Z.out) 0
    have z1 := hp_cell (Z.out) 1
    have y1 := hp_frz (Z.out) 1
    have z2 := hp_cell (Z.out) 2
    have y2 := hp_frz (Z.out) 2
    simp only [List.getElem?_toArray, List.getElem?_cons_zero, List.getElem?_cons_succ] at z0 z1 z2
    go_wp2_with fail
    clear z0 z1 z2 y0 y1 y2
    have TS := still_st3 wb w.heap.size (.int .u64 0) (.int .i64 0) (.int .i64 0)
    have Z4 := Z.out.st3 rfl (.int .u64 0) (.int .i64 0) (.int .i64 0)
    have T4 := B.out.stP TS (by simp)
    have z0 := hp_cell (Z4) 0
    have z1 := hp_cell (Z4) 1
    have z2 := hp_cell (Z4) 2
    simp only [List.getElem?_toArray, List.getElem?_cons_zero, List.getElem?_cons_succ] at z0 z1 z2
    replace Z4 := Lib.hid Z4
    replace TS := Lib.hid TS
    replace T4 := Lib.hid T4
    exact bodyPost_ret (v := .tuple #[.agg #[.int .u64 0, .int .i64 0, .int .i64 0], .int .i64 4]) (by simp [results, Try.results29, go_sem, z0, z1, z2]) rfl (RepRdPost.mk hRd.out rfl T4.out)
  | true =>
    have hRd := Lib.hid (hR2.out.trans (by rw [hgd, if_pos rfl]))
    clear hR2
    replace hgd := Lib.hid hgd
    have c1 := Lib.hid (num_ok (.slice (some ⟨b, o, none⟩) 24 cb) 24 l 1 8 1 8 (by decide) (by decide) (by decide) rfl rfl w7 (V.out.bw B7.out))
    have c2 := Lib.hid (num_ok (.slice (some ⟨b, o, none⟩) 24 cb) 24 l 10 4 10 4 (by decide) (by decide) (by decide) rfl rfl w7 (V.out.bw B7.out))
    rw [hnc.out] at c1
    rw [hv.out] at c2
    go_wp2_with fail
    refine Calls.mono c1.out ?_
    rintro e w8 ⟨rfl, rfl⟩
    clear c1
    go_wp2_with fail
    refine Calls.mono c2.out ?_
    rintro e w8 ⟨rfl, rfl⟩
    clear c2
    have q5 : IntKind.i64.wrap (v : Int) = (v : Int) := IntWalk.i64_in _ (by omega)
    have z0 := hp_cell (Z7.out) 0
    have y0 := hp_frz (Z7.out) 0
    have z1 := hp_cell (Z7.out) 1
    have y1 := hp_frz (Z7.out) 1
    have z2 := hp_cell (Z7.out) 2
    have y2 := hp_frz (Z7.out) 2
    simp only [List.getElem?_toArray, List.getElem?_cons_zero, List.getElem?_cons_succ] at z0 z1 z2
    go_wp2_with fail
    clear z0 z1 z2 y0 y1 y2
    have TS := still_st3 w7 w.heap.size (.int .u64 (nc : Nat)) (.int .i64 (b9 : Nat)) (.int .i64 (v : Nat))
    have Z4 := Z7.out.st3 rfl (.int .u64 (nc : Nat)) (.int .i64 (b9 : Nat)) (.int .i64 (v : Nat))
    have T4 := B7.out.stP TS (by simp)
    have z0 := hp_cell (Z4) 0
    have z1 := hp_cell (Z4) 1
    have z2 := hp_cell (Z4) 2
    simp only [List.getElem?_toArray, List.getElem?_cons_zero, List.getElem?_cons_succ] at z0 z1 z2
    replace Z4 := Lib.hid Z4
    replace TS := Lib.hid TS
    replace T4 := Lib.hid T4
    exact bodyPost_ret (v := .tuple #[.agg #[.int .u64 (nc : Nat), .int .i64 (b9 : Nat), .int .i64 (v : Nat)], .int .i64 0]) (by simp [results, Try.results29, go_sem, z0, z1, z2]) rfl (RepRdPost.mk hRd.out rfl T4.out)
end Go.Proofs.Ytcempndfbckcaaa

namespace Go.Proofs.Ytcempndfbckcaaa
open Go.RowKit

set_option maxRecDepth 100000 in
set_option maxHeartbeats 8000000 in
theorem repRRead_any (sb : Option Addr) (n cb : Nat) (l : List Nat) (sk : Option Addr) (nk ck : Nat) (key : List Nat) (w : World) (h : SB w (.slice sb n cb) n l) (hk : SB w (.slice sk nk ck) nk key) (hn : n ≤ 1000000) (hnk : nk ≤ 1000000) :
    Calls Try.prog 30 #[.slice sb n cb, .slice sk nk ck] w (RepRdPost (repRd key l) w) := by
  have hR : repRd key l = if n < 24 then ⟨2, 0, 0, 0⟩ else if 24 < n ∨ l.getD 0 0 ≠ 200 ∨ 127 < l.getD 10 0 then ⟨3, 0, 0, 0⟩ else if goodB key (l.take 14) (l.drop 14) = true then ⟨0, numB ((l.drop 1).take 8), l.getD 9 0, numB ((l.drop 10).take 4)⟩ else ⟨4, 0, 0, 0⟩ := by rw [← h.1]; rfl
  have hIff := fun (h1 : l.length = 24) (h2 : l.getD 0 0 = 200) => rep_iff (key := key) h.2.1 h1 h2
  obtain ⟨RR, hRR⟩ : ∃ RR, repRd key l = RR := ⟨_, rfl⟩
  rw [hRR] at hR ⊢
  clear hRR
  obtain ⟨_, _, he, hc, hm⟩ := h.len
  cases he
  obtain ⟨_, _, he, hkc, hkm⟩ := hk.len
  cases he
  unfold maxLen at hm hkm
  have hby := fun i => ByL.get h.2.1 i
  have hll := h.1
  have SBl := Lib.hid h.2.1
  have Z : Hid (HpB (w.alloc (.cells #[.int .u64 0, .int .i64 0, .int .i64 0] 52)) w.heap.size (.cells #[.int .u64 0, .int .i64 0, .int .i64 0] 52)) := HpB.new w _
  have B : Hid (BW w (w.alloc (.cells #[.int .u64 0, .int .i64 0, .int .i64 0] 52))) := (BW.refl w).alloc
  have V := Lib.hid h
  have KY := Lib.hid hk
  clear h hk
  replace hR := Lib.hid hR
  replace hby := Lib.hid hby
  replace hll := Lib.hid hll
  replace hIff := Lib.hid hIff
  go_enter Try.func30, Try.ntmps30
  go_upto_region 1 with (fail)
  generalize w.alloc (.cells #[.int .u64 0, .int .i64 0, .int .i64 0] 52) = w1 at *
  by_cases h1 : n < 24
  · have d : decide ((n : Int) < 24) = true := by simp; omega
    have hRd := Lib.hid (hR.out.trans (if_pos h1))
    go_upto_region 2 with (fail)
    have z0 := hp_cell (Z.out) 0
    have y0 := hp_frz (Z.out) 0
    have z1 := hp_cell (Z.out) 1
    have y1 := hp_frz (Z.out) 1
    have z2 := hp_cell (Z.out) 2
    have y2 := hp_frz (Z.out) 2
    simp only [List.getElem?_toArray, List.getElem?_cons_zero, List.getElem?_cons_succ] at z0 z1 z2
    go_wp2_with fail
    clear z0 z1 z2 y0 y1 y2
    have TS := still_st3 w1 w.heap.size (.int .u64 0) (.int .i64 0) (.int .i64 0)
    have Z4 := Z.out.st3 rfl (.int .u64 0) (.int .i64 0) (.int .i64 0)
    have T4 := B.out.stP TS (by simp)
    have z0 := hp_cell (Z4) 0
    have z1 := hp_cell (Z4) 1
    have z2 := hp_cell (Z4) 2
    simp only [List.getElem?_toArray, List.getElem?_cons_zero, List.getElem?_cons_succ] at z0 z1 z2
    replace Z4 := Lib.hid Z4
    replace TS := Lib.hid TS
    replace T4 := Lib.hid T4
    exact bodyPost_ret (v := .tuple #[.agg #[.int .u64 0, .int .i64 0, .int .i64 0], .int .i64 2]) (by simp [results, Try.results30, go_sem, z0, z1, z2]) rfl (RepRdPost.mk hRd.out rfl T4.out)
  have d : decide ((n : Int) < 24) = false := by simp; omega
  have hR2 := hR.out
  rw [if_neg h1] at hR2
  clear hR
  by_cases h24 : 24 < n
  · have d2 : decide ((24 : Int) < (n : Int)) = true := by simp; omega
    have hRd := Lib.hid (hR2.trans (if_pos (.inl h24)))
    clear hR2
    go_upto_region 4 with (fail)
    have z0 := hp_cell (Z.out) 0
    have y0 := hp_frz (Z.out) 0
    have z1 := hp_cell (Z.out) 1
    have y1 := hp_frz (Z.out) 1
    have z2 := hp_cell (Z.out) 2
    have y2 := hp_frz (Z.out) 2
    simp only [List.getElem?_toArray, List.getElem?_cons_zero, List.getElem?_cons_succ] at z0 z1 z2
    go_wp2_with fail
    clear z0 z1 z2 y0 y1 y2
    have TS := still_st3 w1 w.heap.size (.int .u64 0) (.int .i64 0) (.int .i64 0)
    have Z4 := Z.out.st3 rfl (.int .u64 0) (.int .i64 0) (.int .i64 0)
    have T4 := B.out.stP TS (by simp)
    have z0 := hp_cell (Z4) 0
    have z1 := hp_cell (Z4) 1
    have z2 := hp_cell (Z4) 2
    simp only [List.getElem?_toArray, List.getElem?_cons_zero, List.getElem?_cons_succ] at z0 z1 z2
    replace Z4 := Lib.hid Z4
    replace TS := Lib.hid TS
    replace T4 := Lib.hid T4
    exact bodyPost_ret (v := .tuple #[.agg #[.int .u64 0, .int .i64 0, .int .i64 0], .int .i64 3]) (by simp [results, Try.results30, go_sem, z0, z1, z2]) rfl (RepRdPost.mk hRd.out rfl T4.out)
  have d2 : decide ((24 : Int) < (n : Int)) = false := by simp; omega
  obtain rfl : n = 24 := by omega
  obtain ⟨b, o, cap', he, _, _, hbw, hcell⟩ := V.out.form (by omega)
  cases he
  have x0 := B.out.cell (hcell 0 (by omega))
  have x9 := B.out.cell (hcell 9 (by omega))
  have x10 := B.out.cell (hcell 10 (by omega))
  rw [Nat.add_zero] at x0
  have l0 := hby.out 0
  have l9 := hby.out 9
  have l10 := hby.out 10
  replace hIff := Lib.hid (fun h2 => hIff.out hll.out h2)
  have hvb : l.getD 10 0 ≤ 127 → numB ((l.drop 10).take 4) ≤ 2147483647 := fun h => by
    have e : (l.drop 10).take 4 = l.getD 10 0 :: (l.drop 11).take 3 := take_cons 3 (by rw [hll.out]; decide)
    rw [e, numB_cons]
    have h3 : ((l.drop 11).take 3).length = 3 := by rw [List.length_take, List.length_drop, hll.out]; rfl
    have := numB_lt ((l.drop 11).take 3) ((SBl.out.drop _).take _)
    rw [h3] at this ⊢
    omega
  clear hcell
  generalize l.getD 0 0 = b0 at *
  generalize l.getD 9 0 = b9 at *
  generalize l.getD 10 0 = b10 at *
  by_cases h0 : b0 = 200
  case neg =>
    have q : ((b0 : Int) != 200) = true := by rw [bne_iff_ne]; omega
    have hRd := Lib.hid (hR2.trans (if_pos (.inr (.inl h0))))
    clear hR2 hIff
    replace h0 := Lib.hid h0
    go_upto_region 4 with (fail)
    have z0 := hp_cell (Z.out) 0
    have y0 := hp_frz (Z.out) 0
    have z1 := hp_cell (Z.out) 1
    have y1 := hp_frz (Z.out) 1
    have z2 := hp_cell (Z.out) 2
    have y2 := hp_frz (Z.out) 2
    simp only [List.getElem?_toArray, List.getElem?_cons_zero, List.getElem?_cons_succ] at z0 z1 z2
    go_wp2_with fail
    clear z0 z1 z2 y0 y1 y2
    have TS := still_st3 w1 w.heap.size (.int .u64 0) (.int .i64 0) (.int .i64 0)
    have Z4 := Z.out.st3 rfl (.int .u64 0) (.int .i64 0) (.int .i64 0)
    have T4 := B.out.stP TS (by simp)
    have z0 := hp_cell (Z4) 0
    have z1 := hp_cell (Z4) 1
    have z2 := hp_cell (Z4) 2
    simp only [List.getElem?_toArray, List.getElem?_cons_zero, List.getElem?_cons_succ] at z0 z1 z2
    replace Z4 := Lib.hid Z4
    replace TS := Lib.hid TS
    replace T4 := Lib.hid T4
    exact bodyPost_ret (v := .tuple #[.agg #[.int .u64 0, .int .i64 0, .int .i64 0], .int .i64 3]) (by simp [results, Try.results30, go_sem, z0, z1, z2]) rfl (RepRdPost.mk hRd.out rfl T4.out)
  have q : ((b0 : Int) != 200) = false := by rw [bne_eq_false_iff_eq]; omega
  replace hIff := Lib.hid (hIff.out h0)
  by_cases h127 : 127 < b10
  · have d3 : decide ((127 : Int) < (b10 : Int)) = true := by simp; omega
    have hRd := Lib.hid (hR2.trans (if_pos (.inr (.inr h127))))
    clear hR2
    replace h0 := Lib.hid h0
    go_upto_region 4 with (fail)
    have z0 := hp_cell (Z.out) 0
    have y0 := hp_frz (Z.out) 0
    have z1 := hp_cell (Z.out) 1
    have y1 := hp_frz (Z.out) 1
    have z2 := hp_cell (Z.out) 2
    have y2 := hp_frz (Z.out) 2
    simp only [List.getElem?_toArray, List.getElem?_cons_zero, List.getElem?_cons_succ] at z0 z1 z2
    go_wp2_with fail
    clear z0 z1 z2 y0 y1 y2
    have TS := still_st3 w1 w.heap.size (.int .u64 0) (.int .i64 0) (.int .i64 0)
    have Z4 := Z.out.st3 rfl (.int .u64 0) (.int .i64 0) (.int .i64 0)
    have T4 := B.out.stP TS (by simp)
    have z0 := hp_cell (Z4) 0
    have z1 := hp_cell (Z4) 1
    have z2 := hp_cell (Z4) 2
    simp only [List.getElem?_toArray, List.getElem?_cons_zero, List.getElem?_cons_succ] at z0 z1 z2
    replace Z4 := Lib.hid Z4
    replace TS := Lib.hid TS
    replace T4 := Lib.hid T4
    exact bodyPost_ret (v := .tuple #[.agg #[.int .u64 0, .int .i64 0, .int .i64 0], .int .i64 3]) (by simp [results, Try.results30, go_sem, z0, z1, z2]) rfl (RepRdPost.mk hRd.out rfl T4.out)
  have d3 : decide ((127 : Int) < (b10 : Int)) = false := by simp; omega
  replace hvb := hvb (by omega)
  rw [if_neg (by omega)] at hR2
  clear h24
  obtain ⟨nc, hnc⟩ : ∃ nc, numB ((l.drop 1).take 8) = nc := ⟨_, rfl⟩
  obtain ⟨v, hv⟩ : ∃ v, numB ((l.drop 10).take 4) = v := ⟨_, rfl⟩
  have hncb : nc < 18446744073709551616 := by
    rw [← hnc]
    have h8 : ((l.drop 1).take 8).length = 8 := by rw [List.length_take, List.length_drop, hll.out]; rfl
    have := numB_lt ((l.drop 1).take 8) ((SBl.out.drop _).take _)
    rw [h8] at this
    exact this
  rw [hnc, hv] at hR2 hIff
  rw [hv] at hvb
  replace h0 := Lib.hid h0
  replace hR2 := Lib.hid hR2
  replace hnc := Lib.hid hnc
  replace hv := Lib.hid hv
  have c1 := fun wz hb => Lib.hid (rnum8_ok (.slice (some ⟨b, o, none⟩) 24 cb) 24 l 1 8 1 8 (by decide) (by decide) (by decide) (by decide) rfl rfl wz (V.out.bw (B.out.trans (b := w1) hb)))
  have c2 := fun wz hb => Lib.hid (rnum_ok (.slice (some ⟨b, o, none⟩) 24 cb) 24 l 10 4 10 4 (by decide) (by decide) (by decide) (by decide) rfl rfl wz (V.out.bw (B.out.trans (b := w1) hb)))
  simp only [hnc.out] at c1
  simp only [hv.out] at c2
  have m9 : ∀ y : LaterS [] w1, _ := fun y => y.bw.cell x9
  have q5 : IntKind.i64.wrap (v : Int) = (v : Int) := IntWalk.i64_in _ (by omega)
  replace c1 := Lib.hid c1
  replace c2 := Lib.hid c2
  go_upto_region 5 with (fail)
  clear x0 q d d2 d3
  refine wp_region_gg [] [] [11] (by kernel_rfl) ?_
  refine float 10 (fun g => .pointer (some ⟨g, 0, none⟩)) (.cells #[.int .u64 0, .int .i64 0, .int .i64 0] 52) rfl (by kernel_rfl) (by first | (intro k hk; cases hk) | assumption | omega) rfl (fun x => run_flo_alloc _ _ zeroR rfl _ x) ?_
  refine hoist [] [] (a1 := ?_) 0 rfl (by kernel_rfl) (.inl ⟨rfl, rfl⟩) rfl rfl rfl (fun x K hK => ?_) ?_
  rotate_left
  · go_big_quiet_op
    exact hK
  refine hoist_call [] [] (a1 := ?_) 1 rfl (by kernel_rfl) (.inl ⟨rfl, rfl⟩) rfl rfl rfl (fun x K hK => ?_) ?_
  rotate_left
  · go_big_quiet_op
    apply Exists.intro
    refine ⟨fun y => ?_, ?_⟩
    · exact ((c1.out y.now (x.bw.trans y.bw)).out.mono fun _ _ h => ⟨h.1, y, h.2.symm⟩)
    · exact hK
  refine hoist [] [] (a1 := ?_) 2 rfl (by kernel_rfl) (.inl ⟨rfl, rfl⟩) rfl rfl rfl (fun x K hK => ?_) ?_
  rotate_left
  · go_big_quiet_op
    exact hK
  refine hoist [] [] (a1 := ?_) 3 rfl (by kernel_rfl) (.inl ⟨rfl, rfl⟩) rfl rfl rfl (fun x K hK => ?_) ?_
  rotate_left
  · go_big_quiet_op
    exact hK
  refine hoist [] [] (a1 := ?_) 4 rfl (by kernel_rfl) (.inl ⟨rfl, rfl⟩) rfl rfl rfl (fun x K hK => ?_) ?_
  rotate_left
  · go_big_quiet_op
    exact hK
  refine hoist [] [] (a1 := ?_) 5 rfl (by kernel_rfl) (.inl ⟨rfl, rfl⟩) rfl rfl rfl (fun x K hK => ?_) ?_
  rotate_left
  · go_big_quiet_op
    exact hK
  refine hoist [] [] (a1 := ?_) 6 rfl (by kernel_rfl) (.inl ⟨rfl, rfl⟩) rfl rfl rfl (fun x K hK => ?_) ?_
  rotate_left
  · go_big_quiet_op
    exact hK
  refine hoist_call [] [] (a1 := ?_) 7 rfl (by kernel_rfl) (.inl ⟨rfl, rfl⟩) rfl rfl rfl (fun x K hK => ?_) ?_
  rotate_left
  · go_big_quiet_op
    apply Exists.intro
    refine ⟨fun y => ?_, ?_⟩
    · exact ((c2.out y.now (x.bw.trans y.bw)).out.mono fun _ _ h => ⟨h.1, y, h.2.symm⟩)
    · exact hK
  refine hoist [] [] (a1 := ?_) 8 rfl (by kernel_rfl) (.inl ⟨rfl, rfl⟩) rfl rfl rfl (fun x K hK => ?_) ?_
  rotate_left
  · go_big_quiet_op
    exact hK
  refine hoist [] [] (a1 := ?_) 9 rfl (by kernel_rfl) (.inl ⟨rfl, rfl⟩) rfl rfl rfl (fun x K hK => ?_) ?_
  rotate_left
  · go_big_quiet_op
    exact hK
  refine tailF 11 rfl (by kernel_rfl) rfl (fun xr => ?_)
  intro g10 hg10 hG10
  refine fin_nil ?_
  dsimp only at hg10 hG10
  try simp only [Act.put, List.setIfInBounds_toArray, List.set_cons_succ, List.set_cons_zero]
  simp only [List.drop_succ_cons, List.drop_zero]
  have B7 := Lib.hid (B.out.trans xr.bw)
  have Z7 := Lib.hid (Z.out.bw xr.bw)
  have hzw := B.out.size
  have hwz := Z.out.lt
  clear B Z x9 x10 m9 c1 c2
  have G7 : Hid (HpB xr.now g10 (.cells #[.int .u64 0, .int .i64 0, .int .i64 0] 52)) := Lib.hid hG10
  clear hG10
  generalize xr.now = w7 at *
  have z0 := hp_cell (G7.out) 0
  have y0 := hp_frz (G7.out) 0
  have z1 := hp_cell (G7.out) 1
  have y1 := hp_frz (G7.out) 1
  have z2 := hp_cell (G7.out) 2
  have y2 := hp_frz (G7.out) 2
  simp only [List.getElem?_toArray, List.getElem?_cons_zero, List.getElem?_cons_succ] at z0 z1 z2
  go_upto_region 6 with (fail)
  clear z0 z1 z2 y0 y1 y2
  have TS := still_st3 w7 g10 (.int .u64 (nc : Nat)) (.int .i64 (b9 : Nat)) (.int .i64 (v : Nat))
  have G8 := Lib.hid (G7.out.st3 rfl (.int .u64 (nc : Nat)) (.int .i64 (b9 : Nat)) (.int .i64 (v : Nat)))
  have B8 := Lib.hid (B7.out.stP TS (by simp; omega))
  have Z8 := Lib.hid (Z7.out.st TS (by simp; omega))
  clear G7 B7 Z7 TS
  generalize ((w7.setCell ⟨g10, 0, none⟩ (.int .u64 (nc : Nat))).setCell ⟨g10, 1, none⟩ (.int .i64 (b9 : Nat))).setCell ⟨g10, 2, none⟩ (.int .i64 (v : Nat)) = w8 at *
  have cW := Lib.hid (repRWrite_any nc (b9 : Nat) (v : Nat) sk nk ck key w8 hncb (by unfold I64; omega) (by unfold I64; omega) (KY.out.bw B8.out) hnk)
  unfold RepRWPost at cW
  have z0 := hp_cell (G8.out) 0
  have z1 := hp_cell (G8.out) 1
  have z2 := hp_cell (G8.out) 2
  simp only [List.getElem?_toArray, List.getElem?_cons_zero, List.getElem?_cons_succ] at z0 z1 z2
  go_wp2_with fail
  refine Calls.mono cW.out ?_
  rintro e w9 ⟨hr, hb⟩
  clear z0 z1 z2
  have B9 := Lib.hid (B8.out.trans hb)
  have Z9 := Lib.hid (Z8.out.bw hb)
  have G9 := Lib.hid (G8.out.bw hb)
  clear cW hb B8 Z8 G8
  rcases hr with ⟨cn, vn, hcn, hvn, -, -, u, rfl, OX⟩ | ⟨hno, -⟩
  case inr => exact absurd ⟨by omega, by omega, by omega, by omega⟩ hno
  obtain rfl : b9 = cn := by omega
  obtain rfl : v = vn := by omega
  clear hcn hvn
  have hXb : ByL (repN key nc b9 v) := OX.2.1
  generalize repN key nc b9 v = X at *
  obtain ⟨sx, cx, rfl, hcx, hmx⟩ := OX.len
  unfold maxLen at hmx
  have k1 := conv_sb OX.sb
  have k2 := conv_sb (V.out.bw B9.out)
  clear OX
  dsimp only
  by_cases hXl : X = l
  · have hgd := hIff.out.1 hXl
    have hRd := Lib.hid (hR2.out.trans (by rw [hgd, if_pos rfl]))
    rw [hXl] at k1
    clear hR2
    replace hXl := Lib.hid hXl
    replace hgd := Lib.hid hgd
    replace hXb := Lib.hid hXb
    generalize bstr l = zs at *
    go_upto_region 9 with (fail)
    have z0 := hp_cell (Z9.out) 0
    have y0 := hp_frz (Z9.out) 0
    have z1 := hp_cell (Z9.out) 1
    have y1 := hp_frz (Z9.out) 1
    have z2 := hp_cell (Z9.out) 2
    have y2 := hp_frz (Z9.out) 2
    simp only [List.getElem?_toArray, List.getElem?_cons_zero, List.getElem?_cons_succ] at z0 z1 z2
    have k'0 := hp_cell (G9.out) 0
    have k'1 := hp_cell (G9.out) 1
    have k'2 := hp_cell (G9.out) 2
    simp only [List.getElem?_toArray, List.getElem?_cons_zero, List.getElem?_cons_succ] at k'0 k'1 k'2
    go_wp2_with fail
    clear z0 z1 z2 y0 y1 y2 k'0 k'1 k'2
    have TS := still_st3 w9 w.heap.size (.int .u64 (nc : Nat)) (.int .i64 (b9 : Nat)) (.int .i64 (v : Nat))
    have Z4 := Z9.out.st3 rfl (.int .u64 (nc : Nat)) (.int .i64 (b9 : Nat)) (.int .i64 (v : Nat))
    have T4 := B9.out.stP TS (by simp)
    have z0 := hp_cell (Z4) 0
    have z1 := hp_cell (Z4) 1
    have z2 := hp_cell (Z4) 2
    simp only [List.getElem?_toArray, List.getElem?_cons_zero, List.getElem?_cons_succ] at z0 z1 z2
    replace Z4 := Lib.hid Z4
    replace TS := Lib.hid TS
    replace T4 := Lib.hid T4
    exact bodyPost_ret (v := .tuple #[.agg #[.int .u64 (nc : Nat), .int .i64 (b9 : Nat), .int .i64 (v : Nat)], .int .i64 0]) (by simp [results, Try.results30, go_sem, z0, z1, z2]) rfl (RepRdPost.mk hRd.out rfl T4.out)
  · have hgd : ¬ goodB key (l.take 14) (l.drop 14) = true := fun h => hXl (hIff.out.2 h)
    have hRd := Lib.hid (hR2.out.trans (if_neg hgd))
    have e1 := bstr_eqb hXb SBl.out
    rw [decide_eq_false hXl] at e1
    have e2 : ((bstr X).toList != (bstr l).toList) = true := by rw [bne, e1]; rfl
    clear hR2
    replace hXl := Lib.hid hXl
    replace hgd := Lib.hid hgd
    replace hXb := Lib.hid hXb
    generalize bstr l = zs at *
    generalize bstr X = zx at *
    have B := B9
    have Z := Z9
    clear B9 Z9 G9
    obtain ⟨wb, rfl⟩ : ∃ x, x = w9 := ⟨_, rfl⟩
    go_upto_region 8 with (fail)
    have z0 := hp_cell (Z.out) 0
    have y0 := hp_frz (Z.out) 0
    have z1 := hp_cell (Z.out) 1
    have y1 := hp_frz (Z.out) 1
    have z2 := hp_cell (Z.out) 2
    have y2 := hp_frz (Z.out) 2
    simp only [List.getElem?_toArray, List.getElem?_cons_zero, List.getElem?_cons_succ] at z0 z1 z2
    go_wp2_with fail
    clear z0 z1 z2 y0 y1 y2
    have TS := still_st3 wb w.heap.size (.int .u64 0) (.int .i64 0) (.int .i64 0)
    have Z4 := Z.out.st3 rfl (.int .u64 0) (.int .i64 0) (.int .i64 0)
    have T4 := B.out.stP TS (by simp)
    have z0 := hp_cell (Z4) 0
    have z1 := hp_cell (Z4) 1
    have z2 := hp_cell (Z4) 2
    simp only [List.getElem?_toArray, List.getElem?_cons_zero, List.getElem?_cons_succ] at z0 z1 z2
    replace Z4 := Lib.hid Z4
    replace TS := Lib.hid TS
    replace T4 := Lib.hid T4
    exact bodyPost_ret (v := .tuple #[.agg #[.int .u64 0, .int .i64 0, .int .i64 0], .int .i64 4]) (by simp [results, Try.results30, go_sem, z0, z1, z2]) rfl (RepRdPost.mk hRd.out rfl T4.out)
end Go.Proofs.Ytcempndfbckcaaa
