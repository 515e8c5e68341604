/- The reference's new cipher: the walk. No condition. -/
import Derived.Test.YtikmhlbpefednaaGreatGV5
namespace Go.Proofs.YtikmhlbpefednaaGreat
open Go.RowKit
theorem toList_mem {v : Value} {g : Nat} (h : g ∈ v.ownBlock.toList) : v.ownBlock = some g := by simpa [Option.mem_toList] using h
set_option maxRecDepth 100000 in
set_option maxHeartbeats 8000000 in
theorem rnew_any (key : List Nat) (hk : key.length = 16) (hB : Byt key) (w : World) :
  Calls Tryz.prog 97 #[.agg (ivA .u8 key)] w fun e w' => ∃ g, e = .returned (.pointer (some ⟨g, 0, none⟩)) ∧ w.heap.size ≤ g ∧ RC w' g (wordsN key) ∧ Below w.heap.size w w' := by
 have t1 := Lib.hid rtimes_any
 have hWk := Lib.hid (W_key key hk)
 have hWr := Lib.hid (W_rec key hk)
 have hrl := Lib.hid (rk_lt key hB)
 have hrn := Lib.hid (rk_next key)
 have hr4 := Lib.hid (rk_low key)
 have hWb := Lib.hid (wordsN_byt key hB)
 replace hk := Lib.hid hk
 replace hB := Lib.hid hB
 go_enter Tryz.func97, Tryz.ntmps97
 go_wp2_with fail
 refine (rboxes_any _).mono ?_
 rintro e w1 ⟨gB, cB, rfl, hgB, hcB, HB, hb1⟩
 have Hk := Lib.hid ((hb1.block w.heap.size (by simp)).trans (al_new w (.cells (ivA .u8 key) 22) _ rfl))
 have L1 := Lib.hid (((Below.refl _ _).alloc (Nat.le_refl _) (.cells (ivA .u8 key) 22)).trans (hb1.mono (B' := w.heap.size) (by simp)))
 replace HB := Lib.hid HB
 simp at hgB
 have hs1 := hb1.size
 simp at hs1
 clear hb1
 go_wp2_with fail
 have Hc : Hid ((w1.alloc (.cells #[.slice (some ⟨gB, 0, none⟩) 256 cB, .slice none 0 0] 222)).heap[w1.heap.size]? = some (.cells #[.slice (some ⟨gB, 0, none⟩) 256 cB, .slice none 0 0] 222 (0, 0))) := al_new _ _ _ rfl
 have HB2 : Hid ((w1.alloc (.cells #[.slice (some ⟨gB, 0, none⟩) 256 cB, .slice none 0 0] 222)).heap[gB]? = some (.cells (ivA .u8 sbox) 5 (0, 0))) := (al_old _ _ _ (Array.getElem?_eq_some_iff.1 HB.out).1).trans HB.out
 have Hk2 := Lib.hid ((al_old w1 (.cells #[.slice (some ⟨gB, 0, none⟩) 256 cB, .slice none 0 0] 222) _ (by omega)).trans Hk.out)
 have L2 := Lib.hid (L1.out.alloc L1.out.size (.cells #[.slice (some ⟨gB, 0, none⟩) 256 cB, .slice none 0 0] 222))
 clear HB Hk L1
 have hgc : w.heap.size ≤ w1.heap.size := by omega
 generalize w1.alloc (.cells #[.slice (some ⟨gB, 0, none⟩) 256 cB, .slice none 0 0] 222) = w2 at *
 generalize w1.heap.size = gc at *
 generalize hWW : wordsN key = W at *
 clear hs1
 go_loopg [4, 5] 44 (fun m rd iv wx => ∃ i vW, m = 44 - i ∧ i ≤ 44 ∧ rd = .int .u8 (rk key i : Nat) ∧ iv = .int .i64 (i : Nat) ∧
  Hid (wx.heap[gc]? = some (.cells #[.slice (some ⟨gB, 0, none⟩) 256 cB, vW] 222 (0, 0))) ∧ Hid (wx.heap[gB]? = some (.cells (ivA .u8 sbox) 5 (0, 0))) ∧ Hid (wx.heap[w.heap.size]? = some (.cells (ivA .u8 key) 22 (0, 0))) ∧
  Hid (OwnM wx w.heap.size vW (rowsW W i)) ∧ Hid (Below w.heap.size w wx))
 case atStart => exact ⟨0, _, by omega, by omega, by rw [hr4.out 0 (by omega)]; rfl, rfl, Hc, HB2, Hk2, OwnM.nil _ _, L2⟩
 case round =>
  clear Hc HB2 Hk2 L2 hgB hcB
  obtain ⟨i, vW, rfl, hi, rfl, rfl, Hc, HB, Hk, HW, L⟩ := hrel
  by_cases hi44 : i < 44
  ·by_cases hi4 : i < 4
   ·go_wp2_with fail
    have hkc : ∀ j, j < 4 → ∀ x : LaterS [] wr, x.now.cell? ⟨w.heap.size, 4 * i + j, none⟩ = some (.int .u8 (W.getD (4 * i + j) 0 : Nat)) := fun j hj x => by
     rw [x.cell (row_cell Hk.out (4 * i + j) (by rw [hk.out]; omega)) (by simp), hWk.out _ (by omega)]
    have k0 := hkc 0 (by omega)
    have k1 := hkc 1 (by omega)
    have k2 := hkc 2 (by omega)
    have k3 := hkc 3 (by omega)
    rw [Nat.add_zero] at k0
    have kc : ∀ x : LaterS [] wr, x.now.cell? ⟨gc, 1, none⟩ = some vW := fun x => by
     have := x.heap Hc.out (by simp)
     simp [World.cell?, this]
    have hrow : Hid (rowW W i = [W.getD (4 * i) 0, W.getD (4 * i + 1) 0, W.getD (4 * i + 2) 0, W.getD (4 * i + 3) 0]) := rfl
    clear hkc
    generalize W.getD (4 * i) 0 = y0 at *
    generalize W.getD (4 * i + 1) 0 = y1 at *
    generalize W.getD (4 * i + 2) 0 = y2 at *
    generalize W.getD (4 * i + 3) 0 = y3 at *
    refine wp_region_gg (vW.ownBlock.toList) [26] [29] (by kernel_rfl) ?_
    refine hoist (vW.ownBlock.toList) [] (a1 := ?_) 0 rfl (by kernel_rfl) (.inr rfl) rfl rfl rfl (fun x K hK => ?_) ?_
    rotate_left
    ·go_big_quiet_op
     exact hK
    refine hoist [] [26] (a1 := ?_) 1 rfl (by kernel_rfl) (.inl ⟨rfl, rfl⟩) rfl rfl rfl (fun x K hK => ?_) ?_
    rotate_left
    ·go_big_quiet_op
     exact hK
    refine hoist [] [26] (a1 := ?_) 2 rfl (by kernel_rfl) (.inl ⟨rfl, rfl⟩) rfl rfl rfl (fun x K hK => ?_) ?_
    rotate_left
    ·go_big_quiet_op
     exact hK
    refine hoist [] [26] (a1 := ?_) 3 rfl (by kernel_rfl) (.inl ⟨rfl, rfl⟩) rfl rfl rfl (fun x K hK => ?_) ?_
    rotate_left
    ·go_big_quiet_op
     exact hK
    refine hoist [] [26] (a1 := ?_) 4 rfl (by kernel_rfl) (.inl ⟨rfl, rfl⟩) rfl rfl rfl (fun x K hK => ?_) ?_
    rotate_left
    ·go_big_quiet_op
     exact hK
    refine hoist [] [26] (a1 := ?_) 5 rfl (by kernel_rfl) (.inl ⟨rfl, rfl⟩) rfl rfl rfl (fun x K hK => ?_) ?_
    rotate_left
    ·go_big_quiet_op
     exact hK
    refine hoist [] [26] (a1 := ?_) 6 rfl (by kernel_rfl) (.inl ⟨rfl, rfl⟩) rfl rfl rfl (fun x K hK => ?_) ?_
    rotate_left
    ·go_big_quiet_op
     exact hK
    refine hoist [] [26] (a1 := ?_) 7 rfl (by kernel_rfl) (.inl ⟨rfl, rfl⟩) rfl rfl rfl (fun x K hK => ?_) ?_
    rotate_left
    ·go_big_quiet_op
     exact hK
    refine hoist [] [26] (a1 := ?_) 8 rfl (by kernel_rfl) (.inl ⟨rfl, rfl⟩) rfl rfl rfl (fun x K hK => ?_) ?_
    rotate_left
    ·go_big_quiet_op
     exact hK
    refine hoist [] [26] (a1 := ?_) 9 rfl (by kernel_rfl) (.inl ⟨rfl, rfl⟩) rfl rfl rfl (fun x K hK => ?_) ?_
    rotate_left
    ·go_big_quiet_op
     exact hK
    refine hoist [] [26] (a1 := ?_) 10 rfl (by kernel_rfl) (.inl ⟨rfl, rfl⟩) rfl rfl rfl (fun x K hK => ?_) ?_
    rotate_left
    ·go_big_quiet_op
     exact hK
    refine hoist [] [26] (a1 := ?_) 11 rfl (by kernel_rfl) (.inl ⟨rfl, rfl⟩) rfl rfl rfl (fun x K hK => ?_) ?_
    rotate_left
    ·go_big_quiet_op
     exact hK
    refine hoist [] [26] (a1 := ?_) 12 rfl (by kernel_rfl) (.inl ⟨rfl, rfl⟩) rfl rfl rfl (fun x K hK => ?_) ?_
    rotate_left
    ·go_big_quiet_op
     exact hK
    refine hoist [] [26] (a1 := ?_) 13 rfl (by kernel_rfl) (.inl ⟨rfl, rfl⟩) rfl rfl rfl (fun x K hK => ?_) ?_
    rotate_left
    ·go_big_quiet_op
     exact hK
    refine hoist [] [26] (a1 := ?_) 14 rfl (by kernel_rfl) (.inl ⟨rfl, rfl⟩) rfl rfl rfl (fun x K hK => ?_) ?_
    rotate_left
    ·go_big_quiet_op
     exact hK
    refine hoist [] [26] (a1 := ?_) 15 rfl (by kernel_rfl) (.inl ⟨rfl, rfl⟩) rfl rfl rfl (fun x K hK => ?_) ?_
    rotate_left
    ·go_big_quiet_op
     exact hK
    refine hoist [] [26] (a1 := ?_) 16 rfl (by kernel_rfl) (.inl ⟨rfl, rfl⟩) rfl rfl rfl (fun x K hK => ?_) ?_
    rotate_left
    ·go_big_quiet_op
     exact hK
    refine hoist [] [26] (a1 := ?_) 17 rfl (by kernel_rfl) (.inl ⟨rfl, rfl⟩) rfl rfl rfl (fun x K hK => ?_) ?_
    rotate_left
    ·go_big_quiet_op
     exact hK
    refine hoist [] [26] (a1 := ?_) 18 rfl (by kernel_rfl) (.inl ⟨rfl, rfl⟩) rfl rfl rfl (fun x K hK => ?_) ?_
    rotate_left
    ·go_big_quiet_op
     exact hK
    refine hoist [] [26] (a1 := ?_) 19 rfl (by kernel_rfl) (.inl ⟨rfl, rfl⟩) rfl rfl rfl (fun x K hK => ?_) ?_
    rotate_left
    ·go_big_quiet_op
     exact hK
    refine hoist [] [26] (a1 := ?_) 20 rfl (by kernel_rfl) (.inl ⟨rfl, rfl⟩) rfl rfl rfl (fun x K hK => ?_) ?_
    rotate_left
    ·go_big_quiet_op
     exact hK
    refine hoist [] [26] (a1 := ?_) 21 rfl (by kernel_rfl) (.inl ⟨rfl, rfl⟩) rfl rfl rfl (fun x K hK => ?_) ?_
    rotate_left
    ·go_big_quiet_op
     exact hK
    refine hoist [] [26] (a1 := ?_) 22 rfl (by kernel_rfl) (.inl ⟨rfl, rfl⟩) rfl rfl rfl (fun x K hK => ?_) ?_
    rotate_left
    ·go_big_quiet_op
     exact hK
    refine hoist [] [26] (a1 := ?_) 23 rfl (by kernel_rfl) (.inl ⟨rfl, rfl⟩) rfl rfl rfl (fun x K hK => ?_) ?_
    rotate_left
    ·go_big_quiet_op
     exact hK
    refine effect 24 rfl (by kernel_rfl) (by kernel_rfl) rfl (fun x24 K hK => ?_)
    go_simp
    refine hK _ _ (Still.of_below ((Below.refl _ _).alloc (Nat.le_refl _) _)) ?_
    clear hK K
    have R1 : Hid (Own (x24.now.alloc (.cells #[.int .u8 (y0 : Nat), .int .u8 (y1 : Nat), .int .u8 (y2 : Nat), .int .u8 (y3 : Nat)] 5)) w.heap.size 5 (.slice (some ⟨x24.now.heap.size, 0, none⟩) 4 4) (vb (rowW W i))) := by
     rw [hrow.out]; exact Own.new _ _ _ _ _ _ (by have := x24.ok.size; have := L.out.size; omega) rfl (by decide) rfl
    have S1 : Still [] wr (x24.now.alloc (.cells #[.int .u8 (y0 : Nat), .int .u8 (y1 : Nat), .int .u8 (y2 : Nat), .int .u8 (y3 : Nat)] 5)) := x24.ok.trans (Still.of_below ((Below.refl _ _).alloc (Nat.le_refl _) _))
    generalize x24.now.alloc (.cells #[.int .u8 (y0 : Nat), .int .u8 (y1 : Nat), .int .u8 (y2 : Nat), .int .u8 (y3 : Nat)] 5) = wa at *
    generalize x24.now.heap.size = ba at *
    clear k0 k1 k2 k3 hrow
    refine effect 25 rfl (by kernel_rfl) (by kernel_rfl) rfl (fun x25 K hK => ?_)
    go_simp
    refine hK _ _ (Still.of_below ((Below.refl _ _).alloc (Nat.le_refl _) _)) ?_
    clear hK K
    have R2 := Lib.hid ((R1.out.still x25.ok (by simp)).alloc (.cells #[.slice (some ⟨ba, 0, none⟩) 4 4] 35))
    have N2 : Hid ((x25.now.alloc (.cells #[.slice (some ⟨ba, 0, none⟩) 4 4] 35)).cell? ⟨x25.now.heap.size, 0, none⟩ = some (.slice (some ⟨ba, 0, none⟩) 4 4)) := cell_new0 _ _ _
    have S2 : Still [] wr (x25.now.alloc (.cells #[.slice (some ⟨ba, 0, none⟩) 4 4] 35)) := S1.trans (x25.ok.trans (Still.of_below ((Below.refl _ _).alloc (Nat.le_refl _) _)))
    generalize x25.now.alloc (.cells #[.slice (some ⟨ba, 0, none⟩) 4 4] 35) = wb at *
    generalize x25.now.heap.size = bb at *
    refine effect 26 rfl (by kernel_rfl) (by kernel_rfl) rfl (fun x26 K hK => ?_)
    skip
    have S3 := S2.trans x26.ok
    refine wp_apM _ _ rfl w.heap.size vW (rowsW W i) rfl (HW.out.below (B := wr.heap.size) (S3.below (Nat.le_refl _) (by simp)) (Nat.le_refl _)) (rowsW_len W i) (by omega) bb rfl _ (x26.cell N2.out (by simp)) rfl (rowW W i) (R2.out.still x26.ok (by simp)) (by have := S3.size; have := L.out.size; omega) fun v' w' HW' hg => hK _ _ ?_ ?_
    ·exact Still.of_row hg
    simp only [Act.put, List.setIfInBounds_toArray, List.set_cons_succ, List.set_cons_zero]
    rw [rowsW_snoc] at HW'
    obtain ⟨sa', ca', rfl, _, _⟩ := HW'.len (rowsW_len W (i + 1))
    replace HW' := Lib.hid HW'
    have S4 := Lib.hid ((S3.weaken (List.nil_subset _)).trans (Still.of_row hg))
    clear hK K hg S1 S2 S3 R1 R2 N2
    refine hoist [] [26] (a1 := ?_) 27 rfl (by kernel_rfl) (.inl ⟨rfl, rfl⟩) rfl rfl rfl (fun x K hK => ?_) ?_
    rotate_left
    ·go_big_quiet_op
     exact hK
    refine hoist [] [26] (a1 := ?_) 28 rfl (by kernel_rfl) (.inl ⟨rfl, rfl⟩) rfl rfl rfl (fun x K hK => ?_) ?_
    rotate_left
    ·go_big_quiet_op
     exact hK
    refine tail 29 rfl (by kernel_rfl) rfl (fun xr => ?_)
    simp only [List.drop_succ_cons, List.drop_zero]
    have Sx := S4.out.trans (xr.ok.weaken (List.nil_subset _))
    have Hc' := Lib.hid (Sx.heap Hc.out (HW.out.notin Hc.out (by decide)))
    have HB' := Lib.hid (Sx.heap HB.out (HW.out.notin HB.out (by decide)))
    have Hk' := Lib.hid (Sx.heap Hk.out (HW.out.notin Hk.out (by decide)))
    have HWx := Lib.hid (HW'.out.below (B := w'.heap.size) (xr.ok.below (Nat.le_refl _) (by simp)) (Nat.le_refl _))
    have Lx := Lib.hid (L.out.trans (Sx.below (B := w.heap.size) L.out.size (fun k hk => by obtain ⟨xs, k1, _⟩ := HW.out; exact (k1.lt k (toList_mem hk)).1)))
    clear HW HB Hk Hc L HW' S4 Sx
    have c1 : xr.now.cell? ⟨gc, 1, none⟩ = some vW := by rw [heap_cell Hc'.out]; rfl
    have f1 := row_frozen Hc'.out 1
    have Hc5 := Lib.hid (heap_set Hc'.out 1 (.slice sa' (i + 1) ca'))
    have HB5 : Hid ((xr.now.setCell ⟨gc, 1, none⟩ (.slice sa' (i + 1) ca')).heap[gB]? = _) := (row_other (heap_ne HB'.out Hc'.out (by decide))).trans HB'.out
    have Hk5 : Hid ((xr.now.setCell ⟨gc, 1, none⟩ (.slice sa' (i + 1) ca')).heap[w.heap.size]? = _) := (row_other (heap_ne Hk'.out Hc'.out (by decide))).trans Hk'.out
    have HW5 := Lib.hid (HWx.out.set_other Hc'.out (by decide) (by decide) 1 (.slice sa' (i + 1) ca'))
    have L5 := Lib.hid (Below.set3 Lx.out (b := gc) (o := 1) hgc (.slice sa' (i + 1) ca'))
    clear Hc' HB' Hk' HWx Lx
    go_wp2_with fail
    go_roundg (44 - (i + 1))
    case measure => omega
    case rel => exact ⟨i + 1, _, rfl, by omega, by rw [hr4.out i (by omega), hr4.out (i + 1) (by omega)], by go_num, Hc5, HB5, Hk5, HW5, L5⟩
   ·have d44 : decide ((i : Int) < 44) = true := by simp; omega
    have d4 : decide ((i : Int) < 4) = false := by simp; omega
    have hW1 : Hid ((rowsW W i).length = i) := rowsW_len W i
    obtain ⟨gW, cW, rfl, hcW, hmW, hrows⟩ := HW.out.form hW1.out (by omega)
    obtain ⟨x1, hx1, O1⟩ := hrows (i - 1) (by omega)
    obtain ⟨x4, hx4, O4⟩ := hrows (i - 4) (by omega)
    rw [rowsW_get W i _ (by omega)] at O1 O4
    obtain ⟨fo, eo, rfl, _, _, _, _, hc1, _⟩ := O1.form (n := 4) (by rw [vb_len]; rfl) (by omega)
    obtain ⟨f4, ec4, rfl, _, _, _, _, hc4, _⟩ := O4.form (n := 4) (by rw [vb_len]; rfl) (by omega)
    replace O1 := Lib.hid O1
    replace O4 := Lib.hid O4
    clear hrows
    have hcc : wr.cell? ⟨gc, 1, none⟩ = some (.slice (some ⟨gW, 0, none⟩) i cW) := by rw [heap_cell Hc.out]; rfl
    have hx4b := hWb.out
    by_cases hm4 : i % 4 = 0
    have e4 : ((i : Int) % 4 == 0) = true := by rw [beq_iff_eq]; omega
    have hz : ∀ j, j < 4 → wr.cell? ⟨fo, j, none⟩ = some (.int .u8 (W.getD (4 * (i - 1) + j) 0 : Nat)) := fun j hj => by
     rw [hc1 j hj, vb_get _ _ (by simpa [rowW] using hj), rowW_get W _ j hj]
    have hs : ∀ z, z < 256 → wr.cell? ⟨gB, z, none⟩ = some (.int .u8 (sbox.getD z 0 : Nat)) := fun z hz => row_cell HB.out z (by rw [sbox_len]; exact hz)
    have hrd := hrl.out i
    have htv : Hid (tv W (rk key i) i = _) := tv_turn W (rk key i) i (by omega) hm4
    have hb0 := hWb.out (4 * (i - 1))
    have hb1 := hWb.out (4 * (i - 1) + 1)
    have hb2 := hWb.out (4 * (i - 1) + 2)
    have hb3 := hWb.out (4 * (i - 1) + 3)
    have z0 := hz 0 (by omega)
    have z1 := hz 1 (by omega)
    have z2 := hz 2 (by omega)
    have z3 := hz 3 (by omega)
    rw [Nat.add_zero] at z0
    have hc3 : Hid (∀ w, Calls Tryz.prog 122 #[.int .u8 (rk key i : Nat), .int .u8 2] w fun e w' => e = .returned (.int .u8 (rk key (i + 1) : Nat)) ∧ w = w') := fun w => by
     have h1 := t1.out (rk key i) 2 hrd (by omega) w
     rw [times2 _ hrd, ← if_pos (c := i % 4 = 0) (t := dbl (rk key i)) (e := rk key i) hm4, ← hrn.out i (by omega)] at h1
     exact h1.mono fun e w' ⟨h, h'⟩ => ⟨h, h'.symm⟩
    have hrdq : Hid (rk key i < 256) := hrd
    replace hm4 := Lib.hid hm4
    clear hc1 hc4 hz O1
    generalize W.getD (4 * (i - 1)) 0 = y0 at *
    generalize W.getD (4 * (i - 1) + 1) 0 = y1 at *
    generalize W.getD (4 * (i - 1) + 2) 0 = y2 at *
    generalize W.getD (4 * (i - 1) + 3) 0 = y3 at *
    have hxr := u8_xor_nat (sbox.getD y1 0) (rk key i) (sbox_lt _) hrd
    have s0 := hs y0 hb0
    have s1 := hs y1 hb1
    have s2 := hs y2 hb2
    have s3 := hs y3 hb3
    generalize sbox.getD y0 0 = q0 at *
    generalize sbox.getD y1 0 = q1 at *
    generalize sbox.getD y2 0 = q2 at *
    generalize sbox.getD y3 0 = q3 at *
    clear hs
    have kz0 : ∀ x : LaterS [] wr, x.now.cell? ⟨fo, 0, none⟩ = some (.int .u8 (y0 : Nat)) := fun x => x.cell z0 (by simp)
    have kz1 : ∀ x : LaterS [] wr, x.now.cell? ⟨fo, 1, none⟩ = some (.int .u8 (y1 : Nat)) := fun x => x.cell z1 (by simp)
    have kz2 : ∀ x : LaterS [] wr, x.now.cell? ⟨fo, 2, none⟩ = some (.int .u8 (y2 : Nat)) := fun x => x.cell z2 (by simp)
    have kz3 : ∀ x : LaterS [] wr, x.now.cell? ⟨fo, 3, none⟩ = some (.int .u8 (y3 : Nat)) := fun x => x.cell z3 (by simp)
    have ks0 : ∀ x : LaterS [] wr, x.now.cell? ⟨gB, y0, none⟩ = some (.int .u8 (q0 : Nat)) := fun x => x.cell s0 (by simp)
    have ks1 : ∀ x : LaterS [] wr, x.now.cell? ⟨gB, y1, none⟩ = some (.int .u8 (q1 : Nat)) := fun x => x.cell s1 (by simp)
    have ks2 : ∀ x : LaterS [] wr, x.now.cell? ⟨gB, y2, none⟩ = some (.int .u8 (q2 : Nat)) := fun x => x.cell s2 (by simp)
    have ks3 : ∀ x : LaterS [] wr, x.now.cell? ⟨gB, y3, none⟩ = some (.int .u8 (q3 : Nat)) := fun x => x.cell s3 (by simp)
    have kcB : ∀ x : LaterS [] wr, x.now.cell? ⟨gc, 0, none⟩ = some (.slice (some ⟨gB, 0, none⟩) 256 cB) := fun x => x.cell (by rw [heap_cell Hc.out]; rfl) (by simp)
    have i0 : (y0 : Int) < 256 := by omega
    have i1 : (y1 : Int) < 256 := by omega
    have i2 : (y2 : Int) < 256 := by omega
    have i3 : (y3 : Int) < 256 := by omega
    go_wp2_with fail
    refine wp_region_gg [] [] [] (by kernel_rfl) ?_
    refine hoist [] [] (a1 := ?_) 0 rfl (by kernel_rfl) (.inl ⟨rfl, rfl⟩) rfl rfl rfl (fun x K hK => ?_) ?_
    rotate_left
    ·go_big_quiet_op
     exact hK
    refine hoist [] [] (a1 := ?_) 1 rfl (by kernel_rfl) (.inl ⟨rfl, rfl⟩) rfl rfl rfl (fun x K hK => ?_) ?_
    rotate_left
    ·go_big_quiet_op
     exact hK
    refine hoist [] [] (a1 := ?_) 2 rfl (by kernel_rfl) (.inl ⟨rfl, rfl⟩) rfl rfl rfl (fun x K hK => ?_) ?_
    rotate_left
    ·go_big_quiet_op
     exact hK
    refine hoist [] [] (a1 := ?_) 3 rfl (by kernel_rfl) (.inl ⟨rfl, rfl⟩) rfl rfl rfl (fun x K hK => ?_) ?_
    rotate_left
    ·go_big_quiet_op
     exact hK
    refine hoist [] [] (a1 := ?_) 4 rfl (by kernel_rfl) (.inl ⟨rfl, rfl⟩) rfl rfl rfl (fun x K hK => ?_) ?_
    rotate_left
    ·go_big_quiet_op
     exact hK
    refine hoist [] [] (a1 := ?_) 5 rfl (by kernel_rfl) (.inl ⟨rfl, rfl⟩) rfl rfl rfl (fun x K hK => ?_) ?_
    rotate_left
    ·go_big_quiet_op
     exact hK
    refine hoist [] [] (a1 := ?_) 6 rfl (by kernel_rfl) (.inl ⟨rfl, rfl⟩) rfl rfl rfl (fun x K hK => ?_) ?_
    rotate_left
    ·go_big_quiet_op
     exact hK
    refine hoist [] [] (a1 := ?_) 7 rfl (by kernel_rfl) (.inl ⟨rfl, rfl⟩) rfl rfl rfl (fun x K hK => ?_) ?_
    rotate_left
    ·go_big_quiet_op
     exact hK
    refine hoist [] [] (a1 := ?_) 8 rfl (by kernel_rfl) (.inl ⟨rfl, rfl⟩) rfl rfl rfl (fun x K hK => ?_) ?_
    rotate_left
    ·go_big_quiet_op
     exact hK
    refine hoist [] [] (a1 := ?_) 9 rfl (by kernel_rfl) (.inl ⟨rfl, rfl⟩) rfl rfl rfl (fun x K hK => ?_) ?_
    rotate_left
    ·go_big_quiet_op
     exact hK
    refine hoist [] [] (a1 := ?_) 10 rfl (by kernel_rfl) (.inl ⟨rfl, rfl⟩) rfl rfl rfl (fun x K hK => ?_) ?_
    rotate_left
    ·go_big_quiet_op
     exact hK
    refine hoist [] [] (a1 := ?_) 11 rfl (by kernel_rfl) (.inl ⟨rfl, rfl⟩) rfl rfl rfl (fun x K hK => ?_) ?_
    rotate_left
    ·go_big_quiet_op
     exact hK
    refine hoist [] [] (a1 := ?_) 12 rfl (by kernel_rfl) (.inl ⟨rfl, rfl⟩) rfl rfl rfl (fun x K hK => ?_) ?_
    rotate_left
    ·go_big_quiet_op
     exact hK
    refine hoist [] [] (a1 := ?_) 13 rfl (by kernel_rfl) (.inl ⟨rfl, rfl⟩) rfl rfl rfl (fun x K hK => ?_) ?_
    rotate_left
    ·go_big_quiet_op
     exact hK
    refine hoist [] [] (a1 := ?_) 14 rfl (by kernel_rfl) (.inl ⟨rfl, rfl⟩) rfl rfl rfl (fun x K hK => ?_) ?_
    rotate_left
    ·go_big_quiet_op
     exact hK
    refine hoist [] [] (a1 := ?_) 15 rfl (by kernel_rfl) (.inl ⟨rfl, rfl⟩) rfl rfl rfl (fun x K hK => ?_) ?_
    rotate_left
    ·go_big_quiet_op
     exact hK
    refine hoist [] [] (a1 := ?_) 16 rfl (by kernel_rfl) (.inl ⟨rfl, rfl⟩) rfl rfl rfl (fun x K hK => ?_) ?_
    rotate_left
    ·go_big_quiet_op
     exact hK
    refine hoist [] [] (a1 := ?_) 17 rfl (by kernel_rfl) (.inl ⟨rfl, rfl⟩) rfl rfl rfl (fun x K hK => ?_) ?_
    rotate_left
    ·go_big_quiet_op
     exact hK
    refine hoist [] [] (a1 := ?_) 18 rfl (by kernel_rfl) (.inl ⟨rfl, rfl⟩) rfl rfl rfl (fun x K hK => ?_) ?_
    rotate_left
    ·go_big_quiet_op
     exact hK
    refine hoist [] [] (a1 := ?_) 19 rfl (by kernel_rfl) (.inl ⟨rfl, rfl⟩) rfl rfl rfl (fun x K hK => ?_) ?_
    rotate_left
    ·go_big_quiet_op
     exact hK
    refine hoist [] [] (a1 := ?_) 20 rfl (by kernel_rfl) (.inl ⟨rfl, rfl⟩) rfl rfl rfl (fun x K hK => ?_) ?_
    rotate_left
    ·go_big_quiet_op
     exact hK
    refine hoist [] [] (a1 := ?_) 21 rfl (by kernel_rfl) (.inl ⟨rfl, rfl⟩) rfl rfl rfl (fun x K hK => ?_) ?_
    rotate_left
    ·go_big_quiet_op
     exact hK
    refine hoist [] [] (a1 := ?_) 22 rfl (by kernel_rfl) (.inl ⟨rfl, rfl⟩) rfl rfl rfl (fun x K hK => ?_) ?_
    rotate_left
    ·go_big_quiet_op
     exact hK
    refine hoist [] [] (a1 := ?_) 23 rfl (by kernel_rfl) (.inl ⟨rfl, rfl⟩) rfl rfl rfl (fun x K hK => ?_) ?_
    rotate_left
    ·go_big_quiet_op
     exact hK
    refine hoist [] [] (a1 := ?_) 24 rfl (by kernel_rfl) (.inl ⟨rfl, rfl⟩) rfl rfl rfl (fun x K hK => ?_) ?_
    rotate_left
    ·go_big_quiet_op
     exact hK
    refine hoist [] [] (a1 := ?_) 25 rfl (by kernel_rfl) (.inl ⟨rfl, rfl⟩) rfl rfl rfl (fun x K hK => ?_) ?_
    rotate_left
    ·go_big_quiet_op
     exact hK
    refine hoist [] [] (a1 := ?_) 26 rfl (by kernel_rfl) (.inl ⟨rfl, rfl⟩) rfl rfl rfl (fun x K hK => ?_) ?_
    rotate_left
    ·go_big_quiet_op
     exact hK
    refine hoist [] [] (a1 := ?_) 27 rfl (by kernel_rfl) (.inl ⟨rfl, rfl⟩) rfl rfl rfl (fun x K hK => ?_) ?_
    rotate_left
    ·go_big_quiet_op
     exact hK
    refine hoist [] [] (a1 := ?_) 28 rfl (by kernel_rfl) (.inl ⟨rfl, rfl⟩) rfl rfl rfl (fun x K hK => ?_) ?_
    rotate_left
    ·go_big_quiet_op
     exact hK
    refine hoist [] [] (a1 := ?_) 29 rfl (by kernel_rfl) (.inl ⟨rfl, rfl⟩) rfl rfl rfl (fun x K hK => ?_) ?_
    rotate_left
    ·go_big_quiet_op
     exact hK
    refine hoist [] [] (a1 := ?_) 30 rfl (by kernel_rfl) (.inl ⟨rfl, rfl⟩) rfl rfl rfl (fun x K hK => ?_) ?_
    rotate_left
    ·go_big_quiet_op
     exact hK
    refine hoist [] [] (a1 := ?_) 31 rfl (by kernel_rfl) (.inl ⟨rfl, rfl⟩) rfl rfl rfl (fun x K hK => ?_) ?_
    rotate_left
    ·go_big_quiet_op
     exact hK
    refine hoist [] [] (a1 := ?_) 32 rfl (by kernel_rfl) (.inl ⟨rfl, rfl⟩) rfl rfl rfl (fun x K hK => ?_) ?_
    rotate_left
    ·go_big_quiet_op
     exact hK
    refine hoist [] [] (a1 := ?_) 33 rfl (by kernel_rfl) (.inl ⟨rfl, rfl⟩) rfl rfl rfl (fun x K hK => ?_) ?_
    rotate_left
    ·go_big_quiet_op
     exact hK
    refine hoist [] [] (a1 := ?_) 34 rfl (by kernel_rfl) (.inl ⟨rfl, rfl⟩) rfl rfl rfl (fun x K hK => ?_) ?_
    rotate_left
    ·go_big_quiet_op
     exact hK
    refine hoist [] [] (a1 := ?_) 35 rfl (by kernel_rfl) (.inl ⟨rfl, rfl⟩) rfl rfl rfl (fun x K hK => ?_) ?_
    rotate_left
    ·go_big_quiet_op
     exact hK
    refine hoist [] [] (a1 := ?_) 36 rfl (by kernel_rfl) (.inl ⟨rfl, rfl⟩) rfl rfl rfl (fun x K hK => ?_) ?_
    rotate_left
    ·go_big_quiet_op
     exact hK
    refine hoist [] [] (a1 := ?_) 37 rfl (by kernel_rfl) (.inl ⟨rfl, rfl⟩) rfl rfl rfl (fun x K hK => ?_) ?_
    rotate_left
    ·go_big_quiet_op
     exact hK
    refine effect 38 rfl (by kernel_rfl) (by kernel_rfl) rfl (fun x38 K hK => ?_)
    go_simp
    refine hK _ _ (Still.of_below ((Below.refl _ _).alloc (Nat.le_refl _) _)) ?_
    clear hK K
    have Ot : Hid (Own (x38.now.alloc (.cells #[.int .u8 ((q1 ^^^ rk key i : Nat) : Int), .int .u8 (q2 : Nat), .int .u8 (q3 : Nat), .int .u8 (q0 : Nat)] 5)) w.heap.size 5 (.slice (some ⟨x38.now.heap.size, 0, none⟩) 4 4) (vb (tv W (rk key i) i))) := by
     rw [htv.out]; exact Own.new _ _ _ _ _ _ (by have := x38.ok.size; have := L.out.size; omega) rfl (by decide) rfl
    have S1 : Still [] wr (x38.now.alloc (.cells #[.int .u8 ((q1 ^^^ rk key i : Nat) : Int), .int .u8 (q2 : Nat), .int .u8 (q3 : Nat), .int .u8 (q0 : Nat)] 5)) := x38.ok.trans (Still.of_below ((Below.refl _ _).alloc (Nat.le_refl _) _))
    generalize x38.now.alloc (.cells #[.int .u8 ((q1 ^^^ rk key i : Nat) : Int), .int .u8 (q2 : Nat), .int .u8 (q3 : Nat), .int .u8 (q0 : Nat)] 5) = wa at *
    generalize x38.now.heap.size = ft at *
    clear kz0 kz1 kz2 kz3 ks0 ks1 ks2 ks3 kcB hxr z0 z1 z2 z3 s0 s1 s2 s3 htv
    refine hoist [] [] (a1 := ?_) 39 rfl (by kernel_rfl) (.inl ⟨rfl, rfl⟩) rfl rfl rfl (fun x K hK => ?_) ?_
    rotate_left
    ·go_big_quiet_op
     exact hK
    refine done (by kernel_rfl) (fun xr => ?_)
    have S2 := S1.trans xr.ok
    replace Ot := Lib.hid (Ot.out.still xr.ok (by simp))
    have B2 : Below wr.heap.size wr xr.now := S2.below (Nat.le_refl _) (by simp)
    replace Hc := Lib.hid (S2.heap Hc.out (by simp))
    replace HB := Lib.hid (S2.heap HB.out (by simp))
    replace Hk := Lib.hid (S2.heap Hk.out (by simp))
    replace HW := Lib.hid (HW.out.below B2 (Nat.le_refl _))
    replace O4 := Lib.hid (O4.out.below B2 (Nat.le_refl _))
    have hgW : gW < wr.heap.size := World.block_lt_of_cell? _ _ hx4
    replace hx4 := (B2.cell (p := ⟨gW, i - 4, none⟩) hgW).trans hx4
    replace hcc : xr.now.cell? ⟨gc, 1, none⟩ = some (.slice (some ⟨gW, 0, none⟩) i cW) := by rw [heap_cell Hc.out]; rfl
    replace L := Lib.hid (L.out.trans (B2.mono L.out.size))
    clear hx1 S1 S2 B2 hgW
    generalize xr.now = wq at *
    clear xr x38
    go_wp2_with (go_at_call 122; refine (hc3.out _).mono ?_; rintro e w' ⟨rfl, rfl⟩)
    obtain ⟨et, het⟩ : ∃ et : Nat, et = 4 := ⟨_, rfl⟩
    clear het hc3
    rotate_left
    have e4 : ((i : Int) % 4 == 0) = false := by rw [beq_eq_false_iff_ne]; omega
    have htv : Hid (rowW W (i - 1) = tv W (rk key i) i) := (tv_same W (rk key i) i (by omega) hm4).symm
    have hrk : Hid (rk key i = rk key (i + 1)) := by rw [Hid, hrn.out i (by omega), if_neg hm4]
    replace hm4 := Lib.hid hm4
    clear hc1 hc4
    go_wp2_with fail
    rw [hrk.out]
    rw [htv.out] at O1
    have Ot := O1
    clear O1
    obtain ⟨wq, hq⟩ : ∃ wq : World, wq = wr := ⟨_, rfl⟩
    subst hq
    have hrdq : Hid (rk key i < 256) := hrl.out i
    obtain ⟨ft, rfl⟩ : ∃ ft, ft = fo := ⟨_, rfl⟩
    obtain ⟨et, rfl⟩ : ∃ et, et = eo := ⟨_, rfl⟩
    clear hx1
    all_goals
     try simp only [e4]
     go_loopg [7, 8] 4 (fun m sv kv wx => ∃ k wv, m = 4 - k ∧ k ≤ 4 ∧ wv = sv ∧ kv = .int .i64 (k : Nat) ∧ Hid (Own wx wq.heap.size 5 wv (vb (rowTo W i k))) ∧ Hid (Below wq.heap.size wq wx))
     case atStart => exact ⟨0, _, by omega, by omega, rfl, rfl, Own.nil _ _ _, Below.refl _ _⟩
     case round =>
      obtain ⟨k, wv, rfl, hk4, rfl, rfl, OW, LL⟩ := hrel
      have hlift : ∀ (S : List Nat) a v, wq.cell? a = some v → ∀ x : LaterS S wr, a.block ∉ S → x.now.cell? a = some v := fun S a v h x hs => x.cell ((LL.out.cell (World.block_lt_of_cell? _ _ h)).trans h) hs
      replace hlift := Lib.hid hlift
      by_cases hk : k < 4
      ·have hp : ∃ p, p < 256 ∧ wq.cell? ⟨f4, k, none⟩ = some (.int .u8 (p : Nat)) ∧ p = W.getD (4 * (i - 4) + k) 0 := by
        obtain ⟨f, e, hv, _, _, _, _, hcc4, _⟩ := O4.out.form (n := 4) (by rw [vb_len]; rfl) (by omega)
        cases hv
        exact ⟨_, hWb.out _, by rw [hcc4 k hk, vb_get _ _ (by simpa [rowW] using hk), rowW_get W _ k hk], rfl⟩
       have hq : ∃ q, q < 256 ∧ wq.cell? ⟨ft, k, none⟩ = some (.int .u8 (q : Nat)) ∧ q = wt W (rk key i) (4 * i) k := by
        obtain ⟨f, e, hv, _, _, _, _, hcct, _⟩ := Ot.out.form (n := 4) (by rw [vb_len]; rfl) (by omega)
        cases hv
        exact ⟨_, wt_lt hWb.out hrdq.out _ _, by rw [hcct k hk, vb_get _ _ (by simpa [tv] using hk), tv_get W _ i k hk], rfl⟩
       obtain ⟨p, hp1, hp2, hp3⟩ := hp
       obtain ⟨q, hq1, hq2, hq3⟩ := hq
       have hxr : bits .xor .u8 (p : Int) (q : Int) = (W.getD (4 * i + k) 0 : Nat) := by
        rw [u8_xor_nat p q hp1 hq1, hWr.out i k (by omega) (by omega) hk, ← hp3, ← hq3]
       clear hp3 hq3
       have hsn : Hid (rowTo W i k ++ [W.getD (4 * i + k) 0] = rowTo W i (k + 1)) := rowTo_snoc W i k hk
       generalize W.getD (4 * i + k) 0 = yk at *
       have kp : ∀ x : LaterS [] wr, x.now.cell? ⟨f4, k, none⟩ = some (.int .u8 (p : Nat)) := fun x => hlift.out [] _ _ hp2 x (by simp)
       have kq : ∀ x : LaterS [] wr, x.now.cell? ⟨ft, k, none⟩ = some (.int .u8 (q : Nat)) := fun x => hlift.out [] _ _ hq2 x (by simp)
       have kc : ∀ x : LaterS [] wr, x.now.cell? ⟨gc, 1, none⟩ = some (.slice (some ⟨gW, 0, none⟩) i cW) := fun x => hlift.out [] _ _ hcc x (by simp)
       have kx : ∀ x : LaterS [] wr, x.now.cell? ⟨gW, i - 4, none⟩ = some (.slice (some ⟨f4, 0, none⟩) 4 ec4) := fun x => hlift.out [] _ _ hx4 x (by simp)
       clear hp2 hq2
       go_wp2_with fail
       refine wp_region_gg (wv.ownBlock.toList) [18] [] (by kernel_rfl) ?_
       refine hoist [] [18] (a1 := ?_) 0 rfl (by kernel_rfl) (.inl ⟨rfl, rfl⟩) rfl rfl rfl (fun x K hK => ?_) ?_
       rotate_left
       ·go_big_quiet_op
        exact hK
       refine hoist [] [18] (a1 := ?_) 1 rfl (by kernel_rfl) (.inl ⟨rfl, rfl⟩) rfl rfl rfl (fun x K hK => ?_) ?_
       rotate_left
       ·go_big_quiet_op
        exact hK
       refine hoist [] [18] (a1 := ?_) 2 rfl (by kernel_rfl) (.inl ⟨rfl, rfl⟩) rfl rfl rfl (fun x K hK => ?_) ?_
       rotate_left
       ·go_big_quiet_op
        exact hK
       refine hoist [] [18] (a1 := ?_) 3 rfl (by kernel_rfl) (.inl ⟨rfl, rfl⟩) rfl rfl rfl (fun x K hK => ?_) ?_
       rotate_left
       ·go_big_quiet_op
        exact hK
       refine hoist [] [18] (a1 := ?_) 4 rfl (by kernel_rfl) (.inl ⟨rfl, rfl⟩) rfl rfl rfl (fun x K hK => ?_) ?_
       rotate_left
       ·go_big_quiet_op
        exact hK
       refine hoist [] [18] (a1 := ?_) 5 rfl (by kernel_rfl) (.inl ⟨rfl, rfl⟩) rfl rfl rfl (fun x K hK => ?_) ?_
       rotate_left
       ·go_big_quiet_op
        exact hK
       refine hoist [] [18] (a1 := ?_) 6 rfl (by kernel_rfl) (.inl ⟨rfl, rfl⟩) rfl rfl rfl (fun x K hK => ?_) ?_
       rotate_left
       ·go_big_quiet_op
        exact hK
       refine hoist [] [18] (a1 := ?_) 7 rfl (by kernel_rfl) (.inl ⟨rfl, rfl⟩) rfl rfl rfl (fun x K hK => ?_) ?_
       rotate_left
       ·go_big_quiet_op
        exact hK
       refine hoist [] [18] (a1 := ?_) 8 rfl (by kernel_rfl) (.inl ⟨rfl, rfl⟩) rfl rfl rfl (fun x K hK => ?_) ?_
       rotate_left
       ·go_big_quiet_op
        exact hK
       refine hoist [] [18] (a1 := ?_) 9 rfl (by kernel_rfl) (.inl ⟨rfl, rfl⟩) rfl rfl rfl (fun x K hK => ?_) ?_
       rotate_left
       ·go_big_quiet_op
        exact hK
       refine hoist [] [18] (a1 := ?_) 10 rfl (by kernel_rfl) (.inl ⟨rfl, rfl⟩) rfl rfl rfl (fun x K hK => ?_) ?_
       rotate_left
       ·go_big_quiet_op
        exact hK
       refine hoist [] [18] (a1 := ?_) 11 rfl (by kernel_rfl) (.inl ⟨rfl, rfl⟩) rfl rfl rfl (fun x K hK => ?_) ?_
       rotate_left
       ·go_big_quiet_op
        exact hK
       refine hoist [] [18] (a1 := ?_) 12 rfl (by kernel_rfl) (.inl ⟨rfl, rfl⟩) rfl rfl rfl (fun x K hK => ?_) ?_
       rotate_left
       ·go_big_quiet_op
        exact hK
       refine hoist [] [18] (a1 := ?_) 13 rfl (by kernel_rfl) (.inl ⟨rfl, rfl⟩) rfl rfl rfl (fun x K hK => ?_) ?_
       rotate_left
       ·go_big_quiet_op
        exact hK
       refine hoist [] [18] (a1 := ?_) 14 rfl (by kernel_rfl) (.inl ⟨rfl, rfl⟩) rfl rfl rfl (fun x K hK => ?_) ?_
       rotate_left
       ·go_big_quiet_op
        exact hK
       refine hoist [] [18] (a1 := ?_) 15 rfl (by kernel_rfl) (.inl ⟨rfl, rfl⟩) rfl rfl rfl (fun x K hK => ?_) ?_
       rotate_left
       ·go_big_quiet_op
        exact hK
       refine hoist [] [18] (a1 := ?_) 16 rfl (by kernel_rfl) (.inl ⟨rfl, rfl⟩) rfl rfl rfl (fun x K hK => ?_) ?_
       rotate_left
       ·go_big_quiet_op
        exact hK
       refine effect 17 rfl (by kernel_rfl) (by kernel_rfl) rfl (fun x17 K hK => ?_)
       go_simp
       refine hK _ _ (Still.of_below ((Below.refl _ _).alloc (Nat.le_refl _) _)) ?_
       clear hK K
       have N1 : Hid ((x17.now.alloc (.cells #[.int .u8 (yk : Nat)] 5)).cell? ⟨x17.now.heap.size, 0, none⟩ = some (.int .u8 (yk : Nat))) := cell_new0 _ _ _
       have S1 : Still [] wr (x17.now.alloc (.cells #[.int .u8 (yk : Nat)] 5)) := x17.ok.trans (Still.of_below ((Below.refl _ _).alloc (Nat.le_refl _) _))
       generalize x17.now.alloc (.cells #[.int .u8 (yk : Nat)] 5) = wa at *
       generalize x17.now.heap.size = ba at *
       clear kp kq kc kx
       refine effect 18 rfl (by kernel_rfl) (by kernel_rfl) rfl (fun x18 K hK => ?_)
       skip
       have S2 := S1.trans x18.ok
       have hbq : wq.heap.size ≤ x18.now.heap.size := Nat.le_trans LL.out.size S2.size
       refine wp_ap1 slB _ _ rfl wq.heap.size wv _ rfl (OW.out.still S2 (by simp)) (by rw [vb_len, rowTo_len W i k hk4]) ba rfl _ (x18.cell N1.out (by simp)) rfl (by omega) (by decide) hbq fun g' cap' w' OW' hg => hK _ _ ?_ ?_
       ·exact Still.of_row hg
       simp only [Act.put, List.setIfInBounds_toArray, List.set_cons_succ, List.set_cons_zero]
       have LL' := Lib.hid (LL.out.trans ((S2.below (B := wq.heap.size) LL.out.size (by simp)).trans (Own.grown hbq (Nat.le_refl _) (OW.out.still S2 (by simp)) hg)))
       rw [vb_snoc, hsn.out] at OW'
       replace OW' := Lib.hid OW'
       clear hK K hg S1 S2 N1 OW LL
       refine hoist [] [18] (a1 := ?_) 19 rfl (by kernel_rfl) (.inl ⟨rfl, rfl⟩) rfl rfl rfl (fun x K hK => ?_) ?_
       rotate_left
       ·go_big_quiet_op
        exact hK
       refine done (by kernel_rfl) (fun xr => ?_)
       have OWx := Lib.hid (OW'.out.below (B := w'.heap.size) (xr.ok.below (Nat.le_refl _) (by simp)) (Nat.le_refl _))
       have LLx := Lib.hid (LL'.out.trans (xr.ok.below (B := wq.heap.size) LL'.out.size (by simp)))
       clear OW' LL' hlift
       go_wp2_with fail
       go_roundg (4 - (k + 1))
       case measure => omega
       case rel => exact ⟨k + 1, _, rfl, by omega, rfl, by go_num, OWx, LLx⟩
      ·obtain rfl : k = 4 := by omega
       have hHc := Lib.hid (below_heap LL.out Hc.out (Array.getElem?_eq_some_iff.1 Hc.out).1)
       have hHB := Lib.hid (below_heap LL.out HB.out (Array.getElem?_eq_some_iff.1 HB.out).1)
       have hHk := Lib.hid (below_heap LL.out Hk.out (Array.getElem?_eq_some_iff.1 Hk.out).1)
       have hHW := Lib.hid (HW.out.below LL.out (Nat.le_refl _))
       have hL := Lib.hid (L.out.trans (LL.out.mono L.out.size))
       have hOr := Lib.hid (OW.out.up L.out.size)
       obtain ⟨gr, er, rfl, _, _, _, _, _, _⟩ := OW.out.form (n := 4) (by rw [vb_len]; rfl) (by omega)
       have kc : wr.cell? ⟨gc, 1, none⟩ = some (.slice (some ⟨gW, 0, none⟩) i cW) := by rw [heap_cell hHc.out]; rfl
       clear OW LL HW L Hc HB Hk hlift Ot O4 hx4 hcc
       have hSn : Hid (rowsW W i ++ [rowW W i] = rowsW W (i + 1)) := rowsW_snoc W i
       have hgl : Hid (w.heap.size ≤ wr.heap.size) := hL.out.size
       go_wp2_with (at_builtin; go_must (refine wpList_apM rfl _ _ rfl w.heap.size _ (rowsW W i) rfl (hHW.out.below (B := wr.heap.size) ((Below.refl _ _).alloc (Nat.le_refl _) _) (Nat.le_refl _)) hW1.out (by omega) wr.heap.size rfl _ (cell_new0 _ _ _) rfl (rowW W i) (hOr.out.alloc _) (by have := hgl.out; simp; omega) ?_; intro v' w' HW' hg; rw [hSn.out] at HW'; obtain ⟨sa', ca', rfl, _, _⟩ := HW'.len (rowsW_len W (i + 1)); have Sx := ((Still.of_below (S := [gW]) ((Below.refl wr.heap.size wr).alloc (Nat.le_refl _) (.cells #[.slice (some ⟨gr, 0, none⟩) 4 er] 35))).trans (Still.of_row hg)); have Hc' := Lib.hid (Sx.heap hHc.out (hHW.out.notin hHc.out (by decide))); have HB' := Lib.hid (Sx.heap hHB.out (hHW.out.notin hHB.out (by decide))); have Hk' := Lib.hid (Sx.heap hHk.out (hHW.out.notin hHk.out (by decide))); have Lx := Lib.hid (hL.out.trans (Sx.below (B := w.heap.size) hgl.out (fun k hk => by obtain ⟨xs, k1, _⟩ := hHW.out; exact (k1.lt k (toList_mem hk)).1))); have c1 : w'.cell? ⟨gc, 1, none⟩ = some (.slice (some ⟨gW, 0, none⟩) i cW) := (by rw [heap_cell Hc'.out]; rfl); have f1 := row_frozen Hc'.out 1; replace HW' := Lib.hid HW'; clear hg Sx))
       have Hc5 := Lib.hid (heap_set Hc'.out 1 (.slice sa' (i + 1) ca'))
       have HB5 : Hid ((w'.setCell ⟨gc, 1, none⟩ (.slice sa' (i + 1) ca')).heap[gB]? = _) := (row_other (heap_ne HB'.out Hc'.out (by decide))).trans HB'.out
       have Hk5 : Hid ((w'.setCell ⟨gc, 1, none⟩ (.slice sa' (i + 1) ca')).heap[w.heap.size]? = _) := (row_other (heap_ne Hk'.out Hc'.out (by decide))).trans Hk'.out
       have HW5 := Lib.hid (HW'.out.set_other Hc'.out (by decide) (by decide) 1 (.slice sa' (i + 1) ca'))
       have L5 := Lib.hid (Below.set3 Lx.out (b := gc) (o := 1) hgc (.slice sa' (i + 1) ca'))
       go_roundg (44 - (i + 1))
       case measure => omega
       case rel => exact ⟨i + 1, _, rfl, by omega, rfl, by go_num, Hc5, HB5, Hk5, HW5, L5⟩
  ·obtain rfl : i = 44 := by omega
   go_wp2_with fail
   go_ret
   rw [hWW]
   exact ⟨gc, rfl, hgc, ⟨gB, cB, vW, Hc.out, HB.out, HW.out.up (Nat.zero_le _)⟩, L.out⟩
end Go.Proofs.YtikmhlbpefednaaGreat
