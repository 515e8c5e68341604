/- The reference's First. No condition. -/
import Derived.Test.YtikmhlbpefednaaGreatGTa
import Derived.Test.YtikmhlbpefednaaGreatGV6
namespace Go.Proofs.YtikmhlbpefednaaGreat
open Go.RowKit
set_option maxRecDepth 100000 in
set_option maxHeartbeats 8000000 in
theorem rfirst_ok (salt : List Nat) (s x : Nat) (hs : salt.length = 14) (hb : ByL salt) (h4 : s < 4294967296) (h6 : x < 18446744073709551616) (w : World) :
  Calls Tryz.prog 75 #[.agg (ivA .u8 salt), .int .u32 (s : Nat), .int .u64 (x : Nat)] w fun e w' => e = .returned (.agg (ivA .u8 (firstN salt s x))) ∧ Below w.heap.size w w' := by
 have hF : Hid (firstN salt s x = xorAt 16 (xorAt 16 (xorAt 16 (zeros 16) 0 salt) 4 (putB 4 s)) 8 (putB 6 x)) := rfl
 have hFl : Hid ((firstN salt s x).length = 16) := xorAt_len _ _ _ _
 have h6l := Lib.hid (putB_len 6 x)
 have h6b := Lib.hid (putB_byt' 6 x)
 have h4l := Lib.hid (putB_len 4 s)
 have h4b := Lib.hid (putB_byt' 4 s)
 have X2b := Lib.hid (xorAt_byt 16 (xorAt 16 (zeros 16) 0 salt) 4 (putB 4 s) (xorAt_byt 16 (zeros 16) 0 salt (zeros_byt 16) (byt_of hb)) h4b.out)
 have X1b := Lib.hid (xorAt_byt 16 (zeros 16) 0 salt (zeros_byt 16) (byt_of hb))
 have X1l := Lib.hid (xorAt_len 16 (zeros 16) 0 salt)
 have X2l := Lib.hid (xorAt_len 16 (xorAt 16 (zeros 16) 0 salt) 4 (putB 4 s))
 have cs := fun wz => Lib.hid (rput_ok (.slice none 0 0) 0 [] 4 s 4 (by decide) (by decide) rfl (by omega) (by decide) wz (OB.nil wz 0 5).sb)
 have cx := fun wz => Lib.hid (rput_ok (.slice none 0 0) 0 [] 6 x 6 (by decide) (by decide) rfl (by omega) (by decide) wz (OB.nil wz 0 5).sb)
 generalize firstN salt s x = F at *
 generalize putB 6 x = P6 at *
 generalize putB 4 s = P4 at *
 simp only [Nat.zero_add, List.nil_append] at cs cx
 replace hs := Lib.hid hs
 replace hb := Lib.hid hb
 have B := Lib.hid (BW.refl w)
 go_enter Tryz.func75, Tryz.ntmps75
 go_wp2_with (refine alA ar16 rfl rfl ?_)
 have S0 := Lib.hid ((AvB.new w 23 salt).bw (show BW (w.alloc (.cells (ivA .u8 salt) 23)) (((w.alloc (.cells (ivA .u8 salt) 23)).alloc (.cells (ivA .u8 (zeros 16)) 22)).alloc (.cells (ivA .u8 (zeros 16)) 22)) from (by repeat (first | exact BW.refl _ | apply BW.alloc | apply BW.drewN | apply BW.drew))))
 have R0 := Lib.hid ((AvB.new (w.alloc (.cells (ivA .u8 salt) 23)) 22 (zeros 16)).bw (show BW ((w.alloc (.cells (ivA .u8 salt) 23)).alloc (.cells (ivA .u8 (zeros 16)) 22)) (((w.alloc (.cells (ivA .u8 salt) 23)).alloc (.cells (ivA .u8 (zeros 16)) 22)).alloc (.cells (ivA .u8 (zeros 16)) 22)) from (by repeat (first | exact BW.refl _ | apply BW.alloc | apply BW.drewN | apply BW.drew))))
 have C0 := Lib.hid ((AvB.new ((w.alloc (.cells (ivA .u8 salt) 23)).alloc (.cells (ivA .u8 (zeros 16)) 22)) 22 (zeros 16)).bw (show BW (((w.alloc (.cells (ivA .u8 salt) 23)).alloc (.cells (ivA .u8 (zeros 16)) 22)).alloc (.cells (ivA .u8 (zeros 16)) 22)) (((w.alloc (.cells (ivA .u8 salt) 23)).alloc (.cells (ivA .u8 (zeros 16)) 22)).alloc (.cells (ivA .u8 (zeros 16)) 22)) from (by repeat (first | exact BW.refl _ | apply BW.alloc | apply BW.drewN | apply BW.drew))))
 simp only [World.size_alloc] at R0 C0
 generalize hnm : (((w.alloc (.cells (ivA .u8 salt) 23)).alloc (.cells (ivA .u8 (zeros 16)) 22)).alloc (.cells (ivA .u8 (zeros 16)) 22)) = w1 at *
 have hb : BW w w1 := (by subst hnm; exact (by repeat (first | exact BW.refl _ | apply BW.alloc | apply BW.drewN | apply BW.drew)))
 replace B := Lib.hid (B.out.trans hb)
 clear hb
 clear hnm
 try simp only [World.size_alloc]
 have hp2 := C0.out.lt
 refine Calls.mono (cs w1).out ?_
 rintro e w2 ⟨v2, rfl, O2, hb2⟩
 obtain ⟨s2, k2, rfl, _, _⟩ := O2.len
 replace O2 := Lib.hid O2
 have hb : BW w1 w2 := hb2
 replace B := Lib.hid (B.out.trans hb)
 replace S0 := Lib.hid (S0.out.bw hb)
 replace R0 := Lib.hid (R0.out.bw hb)
 replace C0 := Lib.hid (C0.out.bw hb)
 clear hb
 dsimp only
 have hw12 : w1.heap.size ≤ w2.heap.size := Below.size hb2
 go_wp2_with fail
 refine Calls.mono ((cx w2).out) ?_
 rintro e w3 ⟨v3, rfl, O3, hb⟩
 replace hb : BW w2 w3 := BW.call (by repeat (first | exact BW.refl _ | apply BW.alloc | apply BW.drewN | apply BW.drew)) hb
 replace B := Lib.hid (B.out.trans hb)
 replace S0 := Lib.hid (S0.out.bw hb)
 replace R0 := Lib.hid (R0.out.bw hb)
 replace C0 := Lib.hid (C0.out.bw hb)
 replace O2 := Lib.hid (O2.out.bw hb)
 clear hb
 dsimp only
 obtain ⟨s3, k3, rfl, _, _⟩ := O3.len
 replace O3 := Lib.hid (O3.up hw12)
 clear cs cx
 have stp : ∀ wx, Hid (Still [w.heap.size + 1 + 1] w3 wx → BW w wx) := fun wx h => B.out.step (h.below (B := w.heap.size) B.out.size (by simp; omega)) (Nat.le_refl _)
 have sS : ∀ wx, Hid (Still [w.heap.size + 1 + 1] w3 wx → AvB wx w.heap.size 23 salt) := fun wx h => S0.out.still h (by simp; omega)
 have sR : ∀ wx, Hid (Still [w.heap.size + 1 + 1] w3 wx → AvB wx (w.heap.size + 1) 22 (zeros 16)) := fun wx h => R0.out.still h (by simp)
 have s2' : ∀ wx, Hid (Still [w.heap.size + 1 + 1] w3 wx → SB wx (.slice s2 4 k2) 4 P4) := fun wx h => (O2.out.still h (fun g hg => by have := O2.out.ge' g hg; simp; omega)).sb
 have s3' : ∀ wx, Hid (Still [w.heap.size + 1 + 1] w3 wx → SB wx (.slice s3 6 k3) 6 P6) := fun wx h => (O3.out.still h (fun g hg => by have := O3.out.ge' g hg; simp; omega)).sb
 clear S0 R0 O2 O3 B
 go_wp2_with fail
 go_loopg [10] 14 (fun m' i wx => ∃ k : Nat, m' = 14 - k ∧ k ≤ 14 ∧ i = .int .i64 (k : Nat) ∧ Hid (AvB wx (w.heap.size + 1 + 1) 22 (xorAt 16 (zeros 16) 0 (salt.take k))) ∧ Hid (Still [w.heap.size + 1 + 1] w3 wx))
 case atStart => exact ⟨0, by omega, by omega, rfl, by rw [List.take_zero, xorAt_nil 16 _ 0 (zeros_len 16)]; exact C0, Still.refl _ _⟩
 case round =>
  clear C0
  obtain ⟨k, rfl, hk, rfl, C, T⟩ := hrel
  by_cases hk14 : k < 14
  ·have c1 := ((sS wr).out T.out).cell k (by rw [hs.out]; exact hk14)
   have e1 := Lib.hid (xorAt_step 16 (zeros 16) 0 salt k (by omega) (by rw [hs.out]; exact hk14))
   have c2 := C.out.cell k (by rw [xorAt_len]; omega)
   have f2 := C.out.frz k
   rw [Nat.zero_add, zeros_get, Nat.zero_xor] at e1
   have C3 := Lib.hid (C.out.set k (salt.getD k 0))
   rw [e1.out] at C3
   have T3 := Lib.hid (T.out.trans (still_setC wr (w.heap.size + 1 + 1) k (.int .u8 (salt.getD k 0 : Nat))))
   generalize salt.getD k 0 = y at *
   clear C T
   go_wp2_with fail
   go_roundg (14 - (k + 1))
   case measure => omega
   case rel => exact ⟨k + 1, rfl, by omega, by go_num, C3, T3⟩
  ·obtain rfl : k = 14 := by omega
   rw [List.take_of_length_le (by rw [hs.out]; exact Nat.le_refl _)] at C
   clear hk hk14
   generalize xorAt 16 (zeros 16) 0 salt = X1 at *
   go_wp2_with fail
   go_loopg [11] 4 (fun m' i wx => ∃ k : Nat, m' = 4 - k ∧ k ≤ 4 ∧ i = .int .i64 (k : Nat) ∧ Hid (AvB wx (w.heap.size + 1 + 1) 22 (xorAt 16 X1 4 (P4.take k))) ∧ Hid (Still [w.heap.size + 1 + 1] w3 wx))
   case atStart => exact ⟨0, by omega, by omega, rfl, by rw [List.take_zero, xorAt_nil 16 _ 4 X1l.out]; exact C, T⟩
   case round =>
    clear C T
    obtain ⟨k, rfl, hk, rfl, C, T⟩ := hrel
    by_cases hkn : k < 4
    ·obtain ⟨g, o, cap, he, _, _, _, hcell⟩ := ((s2' wr).out T.out).form (by omega)
     cases he
     have c1 := hcell k hkn
     have e1 := Lib.hid (xorAt_step 16 X1 4 P4 k (by omega) (by rw [h4l.out]; exact hkn))
     have c2 := C.out.cell (4 + k) (by rw [xorAt_len]; omega)
     rw [xorAt_get 16 X1 4 P4 k (by omega)] at c2
     have f2 := C.out.frz (4 + k)
     have hy1 := X1b.out (4 + k)
     have hy2 := h4b.out k
     generalize X1.getD (4 + k) 0 = y1 at *
     generalize P4.getD k 0 = y2 at *
     have hX := u8_xor_nat y1 y2 hy1 hy2
     have l1 : ∀ x : LaterS [] wr, x.now.cell? ⟨g, o + k, none⟩ = some (.int .u8 (y2 : Nat)) := fun x => x.cell c1 (by simp)
     have l2 : ∀ x : LaterS [] wr, x.now.cell? ⟨w.heap.size + 1 + 1, 4 + k, none⟩ = some (.int .u8 (y1 : Nat)) := fun x => x.cell c2 (by simp)
     have l3 : ∀ x : LaterS [] wr, x.now.frozen? ⟨w.heap.size + 1 + 1, 4 + k, none⟩ = false := fun x => (C.out.bw x.bw).frz _
     have q1 : (0 : Int) ≤ (k : Int) := by omega
     have q2 : (k : Int) < 4 := by omega
     have q3 : IntKind.i64.wrap (4 + (k : Int)) = 4 + (k : Int) := IntWalk.i64_in _ (by omega)
     have q4 : (0 : Int) ≤ 4 + (k : Int) := by omega
     have q5 : 4 + (k : Int) < 16 := by omega
     have q6 : (4 + (k : Int)).toNat = 4 + k := by omega
     clear c1 c2 f2 hcell
     go_wp2_with fail
     refine wp_region_gg [] [] [11] (by kernel_rfl) ?_
     refine hoist [] [] (a1 := ?_) 0 rfl (by kernel_rfl) (.inl ⟨rfl, rfl⟩) rfl rfl rfl (fun x K hK => ?_) ?_
     rotate_left
     ·go_big_quiet_op
      exact hK
     refine hoist [] [] (a1 := ?_) 1 rfl (by kernel_rfl) (.inl ⟨rfl, rfl⟩) rfl rfl rfl (fun x K hK => ?_) ?_
     rotate_left
     ·go_big_quiet_op
      exact hK
     refine hoist [] [] (a1 := ?_) 2 rfl (by kernel_rfl) (.inl ⟨rfl, rfl⟩) rfl rfl rfl (fun x K hK => ?_) ?_
     rotate_left
     ·go_big_quiet_op
      exact hK
     refine hoist [] [] (a1 := ?_) 3 rfl (by kernel_rfl) (.inl ⟨rfl, rfl⟩) rfl rfl rfl (fun x K hK => ?_) ?_
     rotate_left
     ·go_big_quiet_op
      exact hK
     refine hoist [] [] (a1 := ?_) 4 rfl (by kernel_rfl) (.inl ⟨rfl, rfl⟩) rfl rfl rfl (fun x K hK => ?_) ?_
     rotate_left
     ·go_big_quiet_op
      exact hK
     refine hoist [] [] (a1 := ?_) 5 rfl (by kernel_rfl) (.inl ⟨rfl, rfl⟩) rfl rfl rfl (fun x K hK => ?_) ?_
     rotate_left
     ·go_big_quiet_op
      exact hK
     refine hoist [] [] (a1 := ?_) 6 rfl (by kernel_rfl) (.inl ⟨rfl, rfl⟩) rfl rfl rfl (fun x K hK => ?_) ?_
     rotate_left
     ·go_big_quiet_op
      exact hK
     refine hoist [] [] (a1 := ?_) 7 rfl (by kernel_rfl) (.inl ⟨rfl, rfl⟩) rfl rfl rfl (fun x K hK => ?_) ?_
     rotate_left
     ·go_big_quiet_op
      exact hK
     refine hoist [] [] (a1 := ?_) 8 rfl (by kernel_rfl) (.inl ⟨rfl, rfl⟩) rfl rfl rfl (fun x K hK => ?_) ?_
     rotate_left
     ·go_big_quiet_op
      exact hK
     refine hoist [] [] (a1 := ?_) 9 rfl (by kernel_rfl) (.inl ⟨rfl, rfl⟩) rfl rfl rfl (fun x K hK => ?_) ?_
     rotate_left
     ·go_big_quiet_op
      exact hK
     refine hoist [] [] (a1 := ?_) 10 rfl (by kernel_rfl) (.inl ⟨rfl, rfl⟩) rfl rfl rfl (fun x K hK => ?_) ?_
     rotate_left
     ·go_big_quiet_op
      exact hK
     refine tail 11 rfl (by kernel_rfl) rfl (fun xr => ?_)
     simp only [List.drop_succ_cons, List.drop_zero]
     have C3 := Lib.hid ((C.out.bw xr.bw).set (4 + k) (y1 ^^^ y2))
     rw [e1.out] at C3
     have T3 := Lib.hid ((T.out.trans (xr.ok.weaken (by simp))).trans (still_setC xr.now (w.heap.size + 1 + 1) (4 + k) (.int .u8 (y1 ^^^ y2 : Nat))))
     clear C T l1 q3 q4 q5 q6
     go_wp2_with fail
     go_roundg (4 - (k + 1))
     case measure => omega
     case rel => exact ⟨k + 1, rfl, by omega, by go_num, C3, T3⟩
    ·obtain rfl : k = 4 := by omega
     rw [List.take_of_length_le (by rw [h4l.out]; exact Nat.le_refl _)] at C
     clear hk hkn
     generalize xorAt 16 X1 4 P4 = X2 at *
     go_wp2_with fail
     go_loopg [12] 6 (fun m' i wx => ∃ k : Nat, m' = 6 - k ∧ k ≤ 6 ∧ i = .int .i64 (k : Nat) ∧ Hid (AvB wx (w.heap.size + 1 + 1) 22 (xorAt 16 X2 8 (P6.take k))) ∧ Hid (Still [w.heap.size + 1 + 1] w3 wx))
     case atStart => exact ⟨0, by omega, by omega, rfl, by rw [List.take_zero, xorAt_nil 16 _ 8 X2l.out]; exact C, T⟩
     case round =>
      clear C T
      obtain ⟨k, rfl, hk, rfl, C, T⟩ := hrel
      by_cases hkn : k < 6
      ·obtain ⟨g, o, cap, he, _, _, _, hcell⟩ := ((s3' wr).out T.out).form (by omega)
       cases he
       have c1 := hcell k hkn
       have e1 := Lib.hid (xorAt_step 16 X2 8 P6 k (by omega) (by rw [h6l.out]; exact hkn))
       have c2 := C.out.cell (8 + k) (by rw [xorAt_len]; omega)
       rw [xorAt_get 16 X2 8 P6 k (by omega)] at c2
       have f2 := C.out.frz (8 + k)
       have hy1 := X2b.out (8 + k)
       have hy2 := h6b.out k
       generalize X2.getD (8 + k) 0 = y1 at *
       generalize P6.getD k 0 = y2 at *
       have hX := u8_xor_nat y1 y2 hy1 hy2
       have l1 : ∀ x : LaterS [] wr, x.now.cell? ⟨g, o + k, none⟩ = some (.int .u8 (y2 : Nat)) := fun x => x.cell c1 (by simp)
       have l2 : ∀ x : LaterS [] wr, x.now.cell? ⟨w.heap.size + 1 + 1, 8 + k, none⟩ = some (.int .u8 (y1 : Nat)) := fun x => x.cell c2 (by simp)
       have l3 : ∀ x : LaterS [] wr, x.now.frozen? ⟨w.heap.size + 1 + 1, 8 + k, none⟩ = false := fun x => (C.out.bw x.bw).frz _
       have q1 : (0 : Int) ≤ (k : Int) := by omega
       have q2 : (k : Int) < 6 := by omega
       have q3 : IntKind.i64.wrap (8 + (k : Int)) = 8 + (k : Int) := IntWalk.i64_in _ (by omega)
       have q4 : (0 : Int) ≤ 8 + (k : Int) := by omega
       have q5 : 8 + (k : Int) < 16 := by omega
       have q6 : (8 + (k : Int)).toNat = 8 + k := by omega
       clear c1 c2 f2 hcell
       go_wp2_with fail
       refine wp_region_gg [] [] [11] (by kernel_rfl) ?_
       refine hoist [] [] (a1 := ?_) 0 rfl (by kernel_rfl) (.inl ⟨rfl, rfl⟩) rfl rfl rfl (fun x K hK => ?_) ?_
       rotate_left
       ·go_big_quiet_op
        exact hK
       refine hoist [] [] (a1 := ?_) 1 rfl (by kernel_rfl) (.inl ⟨rfl, rfl⟩) rfl rfl rfl (fun x K hK => ?_) ?_
       rotate_left
       ·go_big_quiet_op
        exact hK
       refine hoist [] [] (a1 := ?_) 2 rfl (by kernel_rfl) (.inl ⟨rfl, rfl⟩) rfl rfl rfl (fun x K hK => ?_) ?_
       rotate_left
       ·go_big_quiet_op
        exact hK
       refine hoist [] [] (a1 := ?_) 3 rfl (by kernel_rfl) (.inl ⟨rfl, rfl⟩) rfl rfl rfl (fun x K hK => ?_) ?_
       rotate_left
       ·go_big_quiet_op
        exact hK
       refine hoist [] [] (a1 := ?_) 4 rfl (by kernel_rfl) (.inl ⟨rfl, rfl⟩) rfl rfl rfl (fun x K hK => ?_) ?_
       rotate_left
       ·go_big_quiet_op
        exact hK
       refine hoist [] [] (a1 := ?_) 5 rfl (by kernel_rfl) (.inl ⟨rfl, rfl⟩) rfl rfl rfl (fun x K hK => ?_) ?_
       rotate_left
       ·go_big_quiet_op
        exact hK
       refine hoist [] [] (a1 := ?_) 6 rfl (by kernel_rfl) (.inl ⟨rfl, rfl⟩) rfl rfl rfl (fun x K hK => ?_) ?_
       rotate_left
       ·go_big_quiet_op
        exact hK
       refine hoist [] [] (a1 := ?_) 7 rfl (by kernel_rfl) (.inl ⟨rfl, rfl⟩) rfl rfl rfl (fun x K hK => ?_) ?_
       rotate_left
       ·go_big_quiet_op
        exact hK
       refine hoist [] [] (a1 := ?_) 8 rfl (by kernel_rfl) (.inl ⟨rfl, rfl⟩) rfl rfl rfl (fun x K hK => ?_) ?_
       rotate_left
       ·go_big_quiet_op
        exact hK
       refine hoist [] [] (a1 := ?_) 9 rfl (by kernel_rfl) (.inl ⟨rfl, rfl⟩) rfl rfl rfl (fun x K hK => ?_) ?_
       rotate_left
       ·go_big_quiet_op
        exact hK
       refine hoist [] [] (a1 := ?_) 10 rfl (by kernel_rfl) (.inl ⟨rfl, rfl⟩) rfl rfl rfl (fun x K hK => ?_) ?_
       rotate_left
       ·go_big_quiet_op
        exact hK
       refine tail 11 rfl (by kernel_rfl) rfl (fun xr => ?_)
       simp only [List.drop_succ_cons, List.drop_zero]
       have C3 := Lib.hid ((C.out.bw xr.bw).set (8 + k) (y1 ^^^ y2))
       rw [e1.out] at C3
       have T3 := Lib.hid ((T.out.trans (xr.ok.weaken (by simp))).trans (still_setC xr.now (w.heap.size + 1 + 1) (8 + k) (.int .u8 (y1 ^^^ y2 : Nat))))
       clear C T l1 q3 q4 q5 q6
       go_wp2_with fail
       go_roundg (6 - (k + 1))
       case measure => omega
       case rel => exact ⟨k + 1, rfl, by omega, by go_num, C3, T3⟩
      ·obtain rfl : k = 6 := by omega
       rw [List.take_of_length_le (by rw [h6l.out]; exact Nat.le_refl _)] at C
       clear hk hkn
       rw [← hF.out] at C
       have R := (sR wr).out T.out
       have R2 := Lib.hid (R.row F)
       have B := ((stp wr).out T.out).row (g := w.heap.size + 1) (by omega) (ivA .u8 F)
       go_wp2_with (first | (refine ldA ar16 rfl rfl rfl C.out hFl.out ?_) | (refine stR ar16 rfl rfl rfl rfl R (zeros_len _) hFl.out ?_))
       exact bodyPost_ret (results_cell_row (p := 6) rfl _ _ _ _ _ _ _ rfl R2.out Tryz.underlying22 rfl (by rw [ar16.hi, ivA_size, hFl.out])) rfl ⟨rfl, B⟩
end Go.Proofs.YtikmhlbpefednaaGreat
