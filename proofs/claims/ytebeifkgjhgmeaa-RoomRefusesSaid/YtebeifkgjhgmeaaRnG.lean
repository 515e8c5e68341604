/- New: a house of seats. No condition but the sizes'. -/
import Derived.Test.YtebeifkgjhgmeaaRnF
namespace Go.Proofs.Ytebeifkgjhgmeaa
open Go.RowKit
structure SeatsV (w : World) (sa : Option Addr) (X : List (List Nat)) : Prop where
 at_ : ∀ i (hi : i < X.length), ∃ b o s c, ∃ cs : Array Value, sa = some ⟨b, o, none⟩ ∧ cs.size = 34 ∧ cs.all (·.oneCell') = true ∧ w.rangeAt b (o + i * 34) cs.toList ∧ cs[31]? = some (.slice s X[i].length c) ∧ SQ EU4 w 0 (.slice s X[i].length c) X[i].length X[i]
theorem SeatsV.bw {a b : World} {sa : Option Addr} {X : List (List Nat)} (h : SeatsV a sa X) (hb : BW a b) : SeatsV b sa X := ⟨fun i hi => by
 obtain ⟨b', o, s, c, cs, h1, h2, h3, h4, h5, h6⟩ := h.at_ i hi
 exact ⟨b', o, s, c, cs, h1, h2, h3, rangeAt_bw h4 hb, h5, h6.bw hb⟩⟩
theorem swSe : SwT 61 34 := ⟨⟨_, Try.underlying61, rfl, rfl⟩, by kernel_rfl⟩
theorem slSo : SlTy Try.prog 62 30 1 24 := SlTy.mk' Try.underlying62 (by kernel_rfl) (by decide)
theorem slMb : SlTy Try.prog 52 45 9 120 := SlTy.mk' Try.underlying52 (by kernel_rfl) (by decide)
set_option maxRecDepth 100000 in
set_option maxHeartbeats 8000000 in
theorem new_ok (sa : Option Addr) (n cap m : Nat) (X : List (List Nat)) (hX : X.length = n) (hm : m = min n 6) (hnc : n ≤ cap) (hcap : cap ≤ 9223372036854775807) (hXl : ∀ x ∈ X, x.length ≤ 1000000) (w : World) (hS : SeatsV w sa X) :
  Calls Try.prog 7 #[.slice sa n cap] w fun e w' => ∃ gh vS sl cl, e = .returned (.pointer (some ⟨gh, 0, none⟩)) ∧ HouseV w' w.heap.size gh vS (.slice sl m cl) (X.take m) (List.replicate m (mem0, .slice none 0 0)) ∧ BW w w' := by
 have hm6 : m ≤ 6 := by omega
 have hmn : m ≤ n := by omega
 have hmi : min (n : Int) 6 = (m : Int) := by omega
 have hXh := Lib.hid hX
 have hSh := Lib.hid hS
 have hXlh := Lib.hid hXl
 have BA : BW w (w.alloc (.cells #[.slice none 0 0, .slice none 0 0] 64)) := (BW.refl w).alloc
 have G1 := Lib.hid (HpB.new w (.cells #[.slice none 0 0, .slice none 0 0] 64))
 have B1 := Lib.hid BA
 clear hS hX BA hXl
 replace hm := Lib.hid hm
 go_enter Try.func7, Try.ntmps7
 go_upto_region 3 with (fail)
 generalize w.alloc _ = w1 at *
 generalize hgh : w.heap.size = gh at *
 replace hgh := Lib.hid hgh
 go_loopg [14] m (fun m' ix wx => ∃ (k : Nat) (s1 : Option Addr) (c1 : Nat) (s2 : Option Addr) (c2 : Nat), m' = m - k ∧ k ≤ m ∧ ix = .int .i64 (k : Nat) ∧ Hid (HpB wx gh (.cells #[.slice s1 k c1, .slice s2 k c2] 64)) ∧ Hid (EQ ESo 30 wx gh (.slice s1 k c1) k (X.take k)) ∧ Hid (EQ EMb 45 wx gh (.slice s2 k c2) k (List.replicate k (mem0, .slice none 0 0))) ∧ Hid (BW w wx))
 case atStart => exact ⟨0, none, 0, none, 0, by omega, by omega, rfl, G1, EQ.nil _ _ _ _, EQ.nil _ _ _ _, B1⟩
 case round =>
  clear G1 B1
  obtain ⟨k, s1, c1, s2, c2, rfl, hk, rfl, G2, Q2, M2, B2⟩ := hrel
  by_cases hkm : k < m
  ·have d1 : decide ((k : Int) < (m : Int)) = true := by simp; omega
   have hkX : k < X.length := by rw [hXh.out]; omega
   obtain ⟨b, o, s, c, cs, rfl, h2, h3, h4, h5, h6⟩ := (hSh.out.bw B2.out).at_ k hkX
   have h7 := hXlh.out X[k] (List.getElem_mem hkX)
   have hR := Lib.hid h4
   have htk : X.take (k + 1) = X.take k ++ [X[k]] := List.take_succ_eq_append_getElem hkX
   have hSq := Lib.hid h6
   generalize X[k] = xs at *
   generalize hnx : xs.length = nx at *
   have BA : BW wr (wr.alloc (.cells cs 61)) := (BW.refl wr).alloc
   have T3 := Lib.hid (HpB.new wr (.cells cs 61))
   replace G2 := Lib.hid (G2.out.bw BA)
   replace Q2 := Lib.hid (Q2.out.bw BA)
   replace M2 := Lib.hid (M2.out.bw BA)
   replace B2 := Lib.hid (B2.out.trans BA)
   replace hSq := Lib.hid (hSq.out.bw BA)
   clear BA h4 h6
   replace htk := Lib.hid htk
   replace hnx := Lib.hid hnx
   go_upto_region 5 with (first | (refine swLdC swSe rfl rfl rfl hR.out h2 ?_) | (refine swStN swSe rfl rfl rfl rfl rfl h2 h3 ?_))
   clear hR
   generalize wr.alloc _ = w3 at *
   generalize wr.heap.size = gt at *
   have z0 := (hp_cell G2.out 0).trans (show _ = some (.slice s1 k c1) from rfl)
   have t31 := (hp_cell T3.out 31).trans h5
   have m0 : ∀ y : LaterS [] w3, _ := fun y => y.bw.cell z0
   have mt : ∀ y : LaterS [] w3, _ := fun y => y.bw.cell t31
   clear z0 t31 h5
   try simp only [Act.put, List.setIfInBounds_toArray, List.set_cons_succ, List.set_cons_zero]
   refine wp_region_gg ((Value.slice s1 k c1).ownBlock.toList) [9] [10] (by kernel_rfl) ?_
   refine hoist ((Value.slice s1 k c1).ownBlock.toList) [] (a1 := ?_) 0 rfl (by kernel_rfl) (.inr rfl) rfl rfl rfl (fun x K hK => ?_) ?_
   rotate_left
   ·go_big_quiet_op
    exact hK
   refine hoist [] [9] (a1 := ?_) 1 rfl (by kernel_rfl) (.inl ⟨rfl, rfl⟩) rfl rfl rfl (fun x K hK => ?_) ?_
   rotate_left
   ·go_big_quiet_op
    exact hK
   refine hoist [] [9] (a1 := ?_) 2 rfl (by kernel_rfl) (.inl ⟨rfl, rfl⟩) rfl rfl rfl (fun x K hK => ?_) ?_
   rotate_left
   ·go_big_quiet_op
    exact hK
   refine hoist [] [9] (a1 := ?_) 3 rfl (by kernel_rfl) (.inl ⟨rfl, rfl⟩) rfl rfl rfl (fun x K hK => ?_) ?_
   rotate_left
   ·go_big_quiet_op
    exact hK
   refine hoist [] [9] (a1 := ?_) 4 rfl (by kernel_rfl) (.inl ⟨rfl, rfl⟩) rfl rfl rfl (fun x K hK => ?_) ?_
   rotate_left
   ·go_big_quiet_op
    exact hK
   refine hoist [] [9] (a1 := ?_) 5 rfl (by kernel_rfl) (.inl ⟨rfl, rfl⟩) rfl rfl rfl (fun x K hK => ?_) ?_
   rotate_left
   ·go_big_quiet_op
    exact hK
   refine hoist [] [9] (a1 := ?_) 6 rfl (by kernel_rfl) (.inl ⟨rfl, rfl⟩) rfl rfl rfl (fun x K hK => ?_) ?_
   rotate_left
   ·go_big_quiet_op
    exact hK
   refine effect 7 rfl (by kernel_rfl) (by kernel_rfl) rfl (fun x7 K hK => ?_)
   go_simp
   refine Calls.mono (clu32 0 nx c s xs x7.now (hSq.out.bw x7.bw) h7) ?_
   rintro e w4 ⟨s4, c4, rfl, K4, hb4⟩
   refine hK _ _ (hb4.still []) ?_
   clear hK K m0 mt
   have B4 := Lib.hid (x7.bw.trans hb4)
   have K4' := Lib.hid (K4.up (show gh ≤ x7.now.heap.size from Nat.le_trans (Nat.le_of_eq hgh.out.symm) (B2.out.trans x7.bw).size))
   clear K4 hb4
   try simp only [Act.put, List.setIfInBounds_toArray, List.set_cons_succ, List.set_cons_zero]
   refine effect 8 rfl (by kernel_rfl) (by kernel_rfl) rfl (fun x8 K hK => ?_)
   go_simp
   refine hK _ _ (Still.of_below ((Below.refl _ _).alloc (Nat.le_refl _) _)) ?_
   clear hK K
   have B8 := Lib.hid (B4.out.trans (x8.bw.alloc (o := .cells #[.slice s4 nx c4] 30)))
   have K8 := Lib.hid ((K4'.out.bw x8.bw).bw (show BW x8.now (x8.now.alloc (.cells #[.slice s4 nx c4] 30)) from (BW.refl _).alloc))
   have L8 : Hid (Sls (x8.now.alloc (.cells #[.slice s4 nx c4] 30)) ESo.size (.slice (some ⟨x8.now.heap.size, 0, none⟩) 1 1) 1 [.slice s4 nx c4]) := Lib.hid (Sls.new1 (E := ESo) x8.now 30 [.slice s4 nx c4] rfl)
   generalize x8.now.alloc (.cells #[.slice s4 nx c4] 30) = w5 at *
   generalize x8.now.heap.size = gz at *
   clear B4 K4'
   try simp only [Act.put, List.setIfInBounds_toArray, List.set_cons_succ, List.set_cons_zero]
   refine effect 9 rfl (by kernel_rfl) (by kernel_rfl) rfl (fun x9 K hK => ?_)
   have B9 := Lib.hid (B8.out.trans x9.bw)
   have U9 := Q2.out.bw B9.out
   have hz9 := Nat.le_trans (Nat.le_of_eq hgh.out.symm) (B2.out.trans B9.out).size
   have hrow9 : ∀ j ∈ (Value.slice s1 k c1).ownBlock.toList, ∃ cs, x9.now.heap[j]? = some (.cells cs 30 (0, 0)) := fun j hj => U9.row j (by simpa using hj)
   refine wp_apEQ slSo _ _ rfl gh (.slice s1 k c1) k (X.take k) rfl U9 _ rfl 1 [xs] [.slice s4 nx c4] (L8.out.bw x9.bw) (EL.single ⟨_, rfl, by rw [hnx.out]; exact K8.out.bw x9.bw⟩) rfl (by omega) hz9 (fun j hj => ?_) ?_
   ·obtain ⟨cs, hcs⟩ := hrow9 j hj
    exact .inr ⟨cs, _, _, hcs, by decide⟩
   intro s6 c6 w6 hc6 hm6' U6 T6 B6 G6
   refine hK _ _ T6 ?_
   clear hK K
   have hne6 : ∀ {b : Nat} {cs : Array Value} {T : TypeId}, HpB x9.now b (.cells cs T) → T ≠ 30 → b ∉ (Value.slice s1 k c1).ownBlock.toList := fun hb ht hm => by
    obtain ⟨cs, hcs⟩ := hrow9 _ hm
    have := hb.symm.trans hcs
    cases this
    exact ht rfl
   have G6' := Lib.hid ((G2.out.bw B9.out).st T6 (hne6 (G2.out.bw B9.out) (by decide)))
   have M6 := Lib.hid ((M2.out.bw B9.out).still T6 (fun j hj => (by
    obtain ⟨cs, hcs⟩ := hrow9 j hj
    exact .inr ⟨cs, _, _, hcs, by decide⟩)) (fun g hg hm => by
    obtain ⟨cs, hcs⟩ := hrow9 g hm
    exact (M2.out.bw B9.out).ne hcs (by decide) _ hg rfl))
   have B6' := Lib.hid (BW.stP (B2.out.trans B9.out) T6 (fun g hg => by rw [hgh.out]; exact U9.ge' g (by simpa using hg)))
   replace U6 := Lib.hid U6
   clear T6 B6 G6 hne6 U9 hrow9 B9 L8 K8 B8
   try simp only [Act.put, List.setIfInBounds_toArray, List.set_cons_succ, List.set_cons_zero]
   refine tail 10 rfl (by kernel_rfl) rfl (fun xr => ?_)
   simp only [List.drop_succ_cons, List.drop_zero]
   replace G6' := Lib.hid (G6'.out.bw xr.bw)
   replace M6 := Lib.hid (M6.out.bw xr.bw)
   replace U6 := Lib.hid (U6.out.bw xr.bw)
   replace B6' := Lib.hid (B6'.out.trans xr.bw)
   clear G2 M2 Q2 B2 T3 hSq
   generalize xr.now = w7 at *
   clear xr
   have z0 := (hp_cell G6'.out 0).trans (show _ = some (.slice s1 k c1) from rfl)
   have y0 := hp_frz G6'.out 0
   have T7 := still_sc w7 gh 0 (.slice s6 (k + 1) c6)
   have G7 : Hid (HpB (w7.setCell ⟨gh, 0, none⟩ (.slice s6 (k + 1) c6)) gh (.cells #[.slice s6 (k + 1) c6, .slice s2 k c2] 64)) := Lib.hid (hp_set G6'.out 0 _)
   have hok7 : ∀ j ∈ [gh], NoI w7 j := fun j hj => (by
    obtain rfl := List.mem_singleton.1 hj
    exact .inr ⟨_, _, _, G6'.out, by decide⟩)
   have M7 := Lib.hid (M6.out.still T7 hok7 (fun g hg hm => by
    obtain rfl := List.mem_singleton.1 hm
    exact M6.out.ne G6'.out (by decide) _ hg rfl))
   have U7 := Lib.hid (U6.out.still T7 (fun j hj => (by
    obtain rfl := List.mem_singleton.1 hj
    exact .inr ⟨_, _, _, G6'.out, by decide⟩)) (fun g hg hm => by
    obtain rfl := List.mem_singleton.1 hm
    exact U6.out.ne G6'.out (by decide) _ hg rfl))
   have B7 := Lib.hid (BW.stP B6'.out T7 (fun g hg => by
    obtain rfl := List.mem_singleton.1 hg
    exact Nat.le_of_eq hgh.out))
   clear T7 hok7 M6 U6 B6'
   go_upto_region 6 with (fail)
   clear z0 y0
   generalize w7.setCell ⟨gh, 0, none⟩ (.slice s6 (k + 1) c6) = w8 at *
   have z1 := (hp_cell G7.out 1).trans (show _ = some (.slice s2 k c2) from rfl)
   have BA : BW w8 (w8.alloc (.cells #[.int .i64 (-1), .bool false, .int .i64 0, .slice none 0 0, .bool false, .int .i64 0, .slice none 0 0, .slice none 0 0, .int .u64 0] 45)) := (BW.refl w8).alloc
   have L9 : Hid (Sls (w8.alloc (.cells #[.int .i64 (-1), .bool false, .int .i64 0, .slice none 0 0, .bool false, .int .i64 0, .slice none 0 0, .slice none 0 0, .int .u64 0] 45)) EMb.size (.slice (some ⟨w8.heap.size, 0, none⟩) 1 1) 1 (memC mem0 (.slice none 0 0) (.slice none 0 0) (.slice none 0 0))) := Lib.hid (Sls.new1 (E := EMb) w8 45 (memC mem0 (.slice none 0 0) (.slice none 0 0) (.slice none 0 0)) rfl)
   have G9 := G7.out.bw BA
   have M9 := Lib.hid (M7.out.bw BA)
   have U9 := U7.out.bw BA
   have B9 := B7.out.trans BA
   have hz9 := Lib.hid (Nat.le_trans (Nat.le_of_eq hgh.out.symm) B9.size)
   have hrow9 : Hid (∀ j ∈ (Value.slice s2 k c2).ownBlock.toList, ∃ cs, (w8.alloc (.cells #[.int .i64 (-1), .bool false, .int .i64 0, .slice none 0 0, .bool false, .int .i64 0, .slice none 0 0, .slice none 0 0, .int .u64 0] 45)).heap[j]? = some (.cells cs 45 (0, 0))) := Lib.hid (fun j hj => M9.out.row j (by simpa using hj))
   have hok9 : Hid (∀ j ∈ (Value.slice s2 k c2).ownBlock.toList, EMb.Ok (w8.alloc (.cells #[.int .i64 (-1), .bool false, .int .i64 0, .slice none 0 0, .bool false, .int .i64 0, .slice none 0 0, .slice none 0 0, .int .u64 0] 45)) j) := Lib.hid (fun j hj => (by
    obtain ⟨cs, hcs⟩ := hrow9.out j hj
    exact .inr ⟨cs, _, _, hcs, by decide⟩))
   replace G9 := Lib.hid G9
   replace U9 := Lib.hid U9
   replace B9 := Lib.hid B9
   clear BA M7 U7 B7
   try simp only [Act.put, List.setIfInBounds_toArray, List.set_cons_succ, List.set_cons_zero]
   go_upto_region 7 with (at_builtin; go_must (refine wpList_apEQ slMb rfl _ _ rfl gh (.slice s2 k c2) k _ rfl M9.out _ rfl 1 [(mem0, .slice none 0 0)] (memC mem0 (.slice none 0 0) (.slice none 0 0) (.slice none 0 0)) L9.out (EL.single ⟨_, _, rfl, rfl, EQ.nil _ _ _ _, EQ.nil _ _ _ _⟩) rfl (by omega) hz9.out hok9.out ?_; intro s10 c10 w10 hc10 hm10 M10 T10 B10 G10; unfold maxLen at hm10; replace M10 := Lib.hid M10; replace T10 := Lib.hid T10; clear B10 G10; have G11 := Lib.hid (G9.out.st T10.out (fun hm => M9.out.ne G9.out (by decide) _ (by simpa using hm) rfl)); have z1 := (hp_cell G11.out 1).trans (show _ = some (.slice s2 k c2) from rfl); have y1 := hp_frz G11.out 1))
   have U11 := U9.out.still T10.out (fun j hj => (by
    obtain ⟨cs, hcs⟩ := hrow9.out j hj
    exact .inr ⟨cs, _, _, hcs, by decide⟩)) (fun g hg hm => by
    obtain ⟨cs, hcs⟩ := hrow9.out g hm
    exact U9.out.ne hcs (by decide) _ hg rfl)
   have B11 := BW.stP B9.out T10.out (fun g hg => by rw [hgh.out]; exact M9.out.ge' g (by simpa using hg))
   have T12 := still_sc w10 gh 1 (.slice s10 (k + 1) c10)
   have G12 : Hid (HpB (w10.setCell ⟨gh, 1, none⟩ (.slice s10 (k + 1) c10)) gh (.cells #[.slice s6 (k + 1) c6, .slice s10 (k + 1) c10] 64)) := Lib.hid (hp_set G11.out 1 _)
   have U12 := Lib.hid (U11.still T12 (fun j hj => (by
    obtain rfl := List.mem_singleton.1 hj
    exact .inr ⟨_, _, _, G11.out, by decide⟩)) (fun g hg hm => by
    obtain rfl := List.mem_singleton.1 hm
    exact U11.ne G11.out (by decide) _ hg rfl))
   have M12 := Lib.hid (M10.out.still T12 (fun j hj => (by
    obtain rfl := List.mem_singleton.1 hj
    exact .inr ⟨_, _, _, G11.out, by decide⟩)) (fun g hg hm => by
    obtain rfl := List.mem_singleton.1 hm
    exact M10.out.ne G11.out (by decide) _ hg rfl))
   have B12 := Lib.hid (BW.stP B11 T12 (fun g hg => by
    obtain rfl := List.mem_singleton.1 hg
    exact Nat.le_of_eq hgh.out))
   clear U11 B11 T12 U9 M9 G9 B9 T10 G11 hrow9 hok9 hz9 L9 z1 y1 G7 M10
   go_wp2_with fail
   go_roundg (m - (k + 1))
   case measure => omega
   case rel => exact ⟨k + 1, s6, c6, s10, c10, rfl, by omega, by first | rfl | (push_cast; rfl), G12, by rw [htk.out]; exact U12, by rw [List.replicate_succ']; exact M12, B12⟩
  ·obtain rfl : k = m := by omega
   have d1 : decide ((k : Int) < (k : Int)) = false := by simp
   have hlx : (X.take k).length = k := by rw [List.length_take, hXh.out]; omega
   go_wp2_with fail
   go_ret
   refine ⟨gh, .slice s1 k c1, s2, c2, rfl, ?_, B2.out⟩
   rw [hgh.out]
   refine ⟨G2.out, by rw [hlx]; exact Q2.out, by rw [List.length_replicate]; exact M2.out, fun p hp => ?_, ?_⟩
   ·obtain rfl := List.eq_of_mem_replicate hp
    exact EQ.nil _ _ _ _
   ·rw [List.map_replicate]
    refine List.pairwise_iff_getElem.2 fun a b ha hb hab => ?_
    simp only [List.getElem_replicate]
    intro k hk
    cases hk
end Go.Proofs.Ytebeifkgjhgmeaa
