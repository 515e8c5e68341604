/- stream: xor, First, Next; the reference's First, Plus. No condition. -/
import Derived.Test.YtjjemkfkpnemoaaStA
import Derived.Test.YtjjemkfkpnemoaaArB
import Derived.Test.YtjjemkfkpnemoaaNum
import Derived.Test.YtjjemkfkpnemoaaRfB
namespace Go.Proofs.Ytjjemkfkpnemoaa
open Go.RowKit

theorem ar14 : ArT 56 14 := ⟨⟨_, Try.underlying56, rfl, rfl⟩, by kernel_rfl, fun w => by kernel_rfl⟩
set_option maxRecDepth 100000 in
set_option maxHeartbeats 8000000 in
theorem sxor_ok (c : List Nat) (at_ : Nat) (a : Int) (ha : a = (at_ : Nat)) (sb : Option Addr) (n cb : Nat) (b : List Nat) (hc : c.length = 16) (hcb : Byt c) (hfit : at_ + n ≤ 16) (w : World) (hv : SB w (.slice sb n cb) n b) :
    Calls Try.prog 69 #[.agg (ivA .u8 c), .int .i64 a, .slice sb n cb] w fun e w' => e = .returned (.agg (ivA .u8 (xorAt 16 c at_ b))) ∧ Below w.heap.size w w' := by
  subst ha
  have hbl := Lib.hid hv.1
  have hbb := Lib.hid (byt_of hv.2.1)
  have u := hv.unpack
  have u1 := u.1
  have u2 := u.2.1
  clear u
  replace hc := Lib.hid hc
  replace hcb := Lib.hid hcb
  replace hv := Lib.hid hv
  have B := Lib.hid (BW.refl w)
  go_enter Try.func69, Try.ntmps69
  go_wp2_with (refine alA ar16 rfl rfl ?_)
  have H1 := Lib.hid ((AvB.new w 28 c).bw ((BW.refl _).alloc (o := .cells (ivA .u8 (zeros 16)) 28)))
  have H2 := Lib.hid (AvB.new (w.alloc (.cells (ivA .u8 c) 28)) 28 (zeros 16))
  rw [World.size_alloc] at H2
  generalize hnm : (w.alloc (.cells (ivA .u8 c) 28)).alloc (.cells (ivA .u8 (zeros 16)) 28) = w1 at *
  have hb : BW w w1 := (by subst hnm; exact (by repeat (first | exact BW.refl _ | apply BW.alloc | apply BW.drewN | apply BW.drew)))
  replace B := Lib.hid (B.out.trans hb)
  clear hb
  clear hnm
  go_loopg [11] n (fun m' i wx => ∃ k : Nat, m' = n - k ∧ k ≤ n ∧ i = .int .i64 (k : Nat) ∧ Hid (AvB wx w.heap.size 28 (xorAt 16 c at_ (b.take k))) ∧ Hid (AvB wx (w.heap.size + 1) 28 (zeros 16)) ∧ Hid (BW w wx))
  case atStart => exact ⟨0, by omega, by omega, rfl, by rw [List.take_zero, xorAt_nil 16 c at_ hc.out]; exact H1, H2, B⟩
  case round =>
    clear H1 H2 B
    obtain ⟨k, rfl, hk, rfl, H1, H2, B⟩ := hrel
    by_cases hkn : k < n
    · obtain ⟨g, o, cap, he, _, _, _, hcell⟩ := (hv.out.bw B.out).form (by omega)
      cases he
      have hx := hcell k hkn
      have e1 := Lib.hid (xorAt_step 16 c at_ b k (by omega) (by rw [hbl.out]; exact hkn))
      have hc1 := H1.out.cell (at_ + k) (by rw [xorAt_len]; omega)
      rw [xorAt_get 16 c at_ b k (by omega)] at hc1
      have hf1 := H1.out.frz (at_ + k)
      have hy1 := hcb.out (at_ + k)
      have hy2 := hbb.out k
      generalize c.getD (at_ + k) 0 = y1 at *
      generalize b.getD k 0 = y2 at *
      have hX := u8_xor_nat y1 y2 hy1 hy2
      have H3 := Lib.hid (H1.out.set (at_ + k) (y1 ^^^ y2))
      rw [e1.out] at H3
      have H4 := Lib.hid (H2.out.setO (b := w.heap.size) (o := at_ + k) (by omega) (.int .u8 (y1 ^^^ y2 : Nat)))
      have B4 := Lib.hid (B.out.set (g := w.heap.size) (o := at_ + k) (Nat.le_refl _) (v := .int .u8 (y1 ^^^ y2 : Nat)))
      clear hcell H1 H2 B
      go_wp2_with fail
      go_roundg (n - (k + 1))
      case measure => omega
      case rel => exact ⟨k + 1, rfl, by omega, by go_num, H3, H4, B4⟩
    · obtain rfl : k = n := by omega
      rw [List.take_of_length_le (by rw [hbl.out]; exact Nat.le_refl _)] at H1
      have B4 := Lib.hid (B.out.row (g := w.heap.size + 1) (by omega) (ivA .u8 (xorAt 16 c at_ b)))
      have H4 := Lib.hid (H2.out.row (xorAt 16 c at_ b))
      go_wp2_with (first | (refine ldA ar16 rfl rfl rfl H1.out (xorAt_len _ _ _ _) ?_) | (refine stR ar16 rfl rfl rfl rfl H2.out (zeros_len _) (xorAt_len _ _ _ _) ?_))
      exact bodyPost_ret (results_cell_row (p := 6) rfl _ _ (w.heap.size + 1) _ _ _ _ rfl H4.out Try.underlying28 rfl (by rw [ar16.hi, ivA_size, xorAt_len])) rfl ⟨rfl, B4.out⟩

/-- The first counter. -/
def firstN (salt : List Nat) (s x : Nat) : List Nat := xorAt 16 (xorAt 16 (xorAt 16 (zeros 16) 0 salt) 4 (putB 4 s)) 8 (putB 6 x)
theorem zeros_byt (n : Nat) : Byt (zeros n) := fun i => by
  simp only [zeros, List.getD_eq_getElem?_getD, List.getElem?_replicate]
  split <;> simp
theorem putB_byt' (n x : Nat) : Byt (putB n x) := byt_of (putB_byt n x)

set_option maxRecDepth 100000 in
set_option maxHeartbeats 8000000 in
theorem first_ok (salt : List Nat) (s x : Nat) (hs : salt.length = 14) (hb : ByL salt) (h4 : s < 4294967296) (h6 : x < 18446744073709551616) (w : World) :
    Calls Try.prog 43 #[.agg (ivA .u8 salt), .int .u32 (s : Nat), .int .u64 (x : Nat)] w fun e w' => e = .returned (.agg (ivA .u8 (firstN salt s x))) ∧ Below w.heap.size w w' := by
  have hF : Hid (firstN salt s x = xorAt 16 (xorAt 16 (xorAt 16 (zeros 16) 0 salt) 4 (putB 4 s)) 8 (putB 6 x)) := rfl
  have X1l := Lib.hid (xorAt_len 16 (zeros 16) 0 salt)
  have X1b := Lib.hid (xorAt_byt 16 (zeros 16) 0 salt (zeros_byt 16) (byt_of hb))
  have X2l := Lib.hid (xorAt_len 16 (xorAt 16 (zeros 16) 0 salt) 4 (putB 4 s))
  have X2b := Lib.hid (xorAt_byt 16 (xorAt 16 (zeros 16) 0 salt) 4 (putB 4 s) X1b.out (putB_byt' 4 s))
  have X3l := Lib.hid (xorAt_len 16 (xorAt 16 (xorAt 16 (zeros 16) 0 salt) 4 (putB 4 s)) 8 (putB 6 x))
  have c1 := Lib.hid (sxor_ok (zeros 16) 0 0 rfl (hc := zeros_len 16) (hcb := zeros_byt 16) (b := salt))
  have c2 := Lib.hid (sxor_ok (xorAt 16 (zeros 16) 0 salt) 4 4 rfl (hc := X1l.out) (hcb := X1b.out) (b := putB 4 s))
  have c3 := Lib.hid (sxor_ok (xorAt 16 (xorAt 16 (zeros 16) 0 salt) 4 (putB 4 s)) 8 8 rfl (hc := X2l.out) (hcb := X2b.out) (b := putB 6 x))
  rw [← hF.out] at c3 X3l
  generalize firstN salt s x = X3 at *
  generalize xorAt 16 (xorAt 16 (zeros 16) 0 salt) 4 (putB 4 s) = X2 at *
  generalize xorAt 16 (zeros 16) 0 salt = X1 at *
  replace hs := Lib.hid hs
  replace hb := Lib.hid hb
  have B := Lib.hid (BW.refl w)
  go_enter Try.func43, Try.ntmps43
  go_wp2_with (refine alA ar16 rfl rfl ?_)
  have S0 := Lib.hid ((AvB.new w 56 salt).bw (((BW.refl _).alloc (o := .cells (ivA .u8 (zeros 16)) 28)).alloc (o := .cells (ivA .u8 (zeros 16)) 28)))
  have R0 := Lib.hid ((AvB.new (w.alloc (.cells (ivA .u8 salt) 56)) 28 (zeros 16)).bw ((BW.refl _).alloc (o := .cells (ivA .u8 (zeros 16)) 28)))
  have C0 := Lib.hid (AvB.new ((w.alloc (.cells (ivA .u8 salt) 56)).alloc (.cells (ivA .u8 (zeros 16)) 28)) 28 (zeros 16))
  simp only [World.size_alloc] at R0 C0
  generalize hnm : ((w.alloc (.cells (ivA .u8 salt) 56)).alloc (.cells (ivA .u8 (zeros 16)) 28)).alloc (.cells (ivA .u8 (zeros 16)) 28) = w1 at *
  have hb : BW w w1 := (by subst hnm; exact (by repeat (first | exact BW.refl _ | apply BW.alloc | apply BW.drewN | apply BW.drew)))
  replace B := Lib.hid (B.out.trans hb)
  clear hb
  clear hnm
  obtain ⟨r0, er, lr⟩ : ∃ r, w.heap.size + 1 = r ∧ w.heap.size ≤ r := ⟨_, rfl, by omega⟩
  obtain ⟨c0, ec, lc, nc⟩ : ∃ c, w.heap.size + 1 + 1 = c ∧ w.heap.size ≤ c ∧ r0 ≠ c := ⟨_, rfl, by omega, by omega⟩
  rw [er] at R0
  rw [ec] at C0
  try simp only [Act.put, List.setIfInBounds_toArray, List.set_cons_succ, List.set_cons_zero]
  simp only [World.size_alloc]
  simp only [ec]
  simp only [er]
  clear ec er
  generalize hws : w.heap.size = ws at S0 ⊢
  replace hws := Lib.hid hws
  refine wp_region_gg [] [] [3] (by kernel_rfl) ?_
  refine hoist [] [] (a1 := ?_) 0 rfl (by kernel_rfl) (.inl ⟨rfl, rfl⟩) rfl rfl rfl (fun x K hK => ?_) ?_
  rotate_left
  · refine qlA ar16 rfl rfl (zeros_len 16) (fun w' hw => by subst hw; exact C0.out.bw x.bw) (by simp only [Act.put, List.setIfInBounds_toArray, List.set_cons_succ, List.set_cons_zero]; rfl) ?_
    exact hK
  refine hoist [] [] (a1 := ?_) 1 rfl (by kernel_rfl) (.inl ⟨rfl, rfl⟩) rfl rfl rfl (fun x K hK => ?_) ?_
  rotate_left
  · go_big_quiet_op
    exact hK
  refine effect 2 rfl (by kernel_rfl) (by kernel_rfl) rfl (fun x2 K hK => ?_)
  go_simp
  refine Calls.mono (c1.out _ 14 _ (by decide) _ ((S0.out.bw x2.bw).sb hb.out 14 hs.out (by decide))) ?_
  rintro e w2 ⟨rfl, hb2⟩
  refine hK _ _ (Still.of_below hb2) ?_
  clear hK K
  have hb : BW w1 w2 := (x2.bw.call hb2)
  replace B := Lib.hid (B.out.trans hb)
  replace R0 := Lib.hid (R0.out.bw hb)
  replace C0 := Lib.hid (C0.out.bw hb)
  clear hb
  try simp only [Act.put, List.setIfInBounds_toArray, List.set_cons_succ, List.set_cons_zero]
  refine tail 3 rfl (by kernel_rfl) rfl (fun xr => ?_)
  simp only [List.drop_succ_cons, List.drop_zero]
  have C1 := Lib.hid ((C0.out.bw xr.bw).row X1)
  have R1 := Lib.hid ((R0.out.bw xr.bw).rowO nc (ivA .u8 X1))
  have B1 := Lib.hid ((B.out.trans xr.bw).row lc (ivA .u8 X1))
  have C0x := C0.out.bw xr.bw
  clear R0 C0 B
  go_upto_region 3 with (refine stR ar16 rfl rfl rfl rfl C0x (zeros_len 16) X1l.out ?_)
  clear C0x
  generalize xr.now.setRow c0 (ivA .u8 X1) = w3 at *
  clear S0
  try simp only [Act.put, List.setIfInBounds_toArray, List.set_cons_succ, List.set_cons_zero]
  refine wp_region_gg [] [] [5] (by kernel_rfl) ?_
  refine hoist [] [] (a1 := ?_) 0 rfl (by kernel_rfl) (.inl ⟨rfl, rfl⟩) rfl rfl rfl (fun x K hK => ?_) ?_
  rotate_left
  · refine qlA ar16 rfl rfl X1l.out (fun w' hw => by subst hw; exact C1.out.bw x.bw) (by simp only [Act.put, List.setIfInBounds_toArray, List.set_cons_succ, List.set_cons_zero]; rfl) ?_
    exact hK
  refine hoist [] [] (a1 := ?_) 1 rfl (by kernel_rfl) (.inl ⟨rfl, rfl⟩) rfl rfl rfl (fun x K hK => ?_) ?_
  rotate_left
  · go_big_quiet_op
    exact hK
  refine hoist [] [] (a1 := ?_) 2 rfl (by kernel_rfl) (.inl ⟨rfl, rfl⟩) rfl rfl rfl (fun x K hK => ?_) ?_
  rotate_left
  · go_big_quiet_op
    exact hK
  refine effect 3 rfl (by kernel_rfl) (by kernel_rfl) rfl (fun x3 K hK => ?_)
  go_simp
  refine Calls.mono (put_ok (.slice none 0 0) 0 [] 4 s 4 (by decide) (by decide) rfl (by omega) (by decide) _ (OB.nil x3.now 0 5).sb) ?_
  rintro e w4 ⟨v4, rfl, O4, hb4⟩
  simp only [Nat.zero_add, List.nil_append] at O4
  obtain ⟨s4, k4, rfl, _, _⟩ := O4.len
  replace O4 := Lib.hid O4
  refine hK _ _ (Still.of_below hb4) ?_
  clear hK K
  have hb : BW w3 w4 := (x3.bw.call hb4)
  replace B1 := Lib.hid (B1.out.trans hb)
  replace R1 := Lib.hid (R1.out.bw hb)
  replace C1 := Lib.hid (C1.out.bw hb)
  clear hb
  try simp only [Act.put, List.setIfInBounds_toArray, List.set_cons_succ, List.set_cons_zero]
  refine effect 4 rfl (by kernel_rfl) (by kernel_rfl) rfl (fun x4 K hK => ?_)
  go_simp
  refine Calls.mono (c2.out _ 4 _ (by decide) _ (O4.out.bw x4.bw).sb) ?_
  rintro e w5 ⟨rfl, hb5⟩
  refine hK _ _ (Still.of_below hb5) ?_
  clear hK K O4
  have hb : BW w4 w5 := (x4.bw.call hb5)
  replace B1 := Lib.hid (B1.out.trans hb)
  replace R1 := Lib.hid (R1.out.bw hb)
  replace C1 := Lib.hid (C1.out.bw hb)
  clear hb
  try simp only [Act.put, List.setIfInBounds_toArray, List.set_cons_succ, List.set_cons_zero]
  refine tail 5 rfl (by kernel_rfl) rfl (fun xr => ?_)
  simp only [List.drop_succ_cons, List.drop_zero]
  have C2 := Lib.hid ((C1.out.bw xr.bw).row X2)
  have R2 := Lib.hid ((R1.out.bw xr.bw).rowO nc (ivA .u8 X2))
  have B2 := Lib.hid ((B1.out.trans xr.bw).row lc (ivA .u8 X2))
  have C0x := C1.out.bw xr.bw
  clear R1 C1 B1
  go_upto_region 4 with (refine stR ar16 rfl rfl rfl rfl C0x X1l.out X2l.out ?_)
  clear C0x
  generalize xr.now.setRow c0 (ivA .u8 X2) = w6 at *
  try simp only [Act.put, List.setIfInBounds_toArray, List.set_cons_succ, List.set_cons_zero]
  refine wp_region_gg [] [] [4] (by kernel_rfl) ?_
  refine hoist [] [] (a1 := ?_) 0 rfl (by kernel_rfl) (.inl ⟨rfl, rfl⟩) rfl rfl rfl (fun x K hK => ?_) ?_
  rotate_left
  · refine qlA ar16 rfl rfl X2l.out (fun w' hw => by subst hw; exact C2.out.bw x.bw) (by simp only [Act.put, List.setIfInBounds_toArray, List.set_cons_succ, List.set_cons_zero]; rfl) ?_
    exact hK
  refine hoist [] [] (a1 := ?_) 1 rfl (by kernel_rfl) (.inl ⟨rfl, rfl⟩) rfl rfl rfl (fun x K hK => ?_) ?_
  rotate_left
  · go_big_quiet_op
    exact hK
  refine effect 2 rfl (by kernel_rfl) (by kernel_rfl) rfl (fun x2 K hK => ?_)
  go_simp
  refine Calls.mono (put_ok (.slice none 0 0) 0 [] 6 x 6 (by decide) (by decide) rfl (by omega) (by decide) _ (OB.nil x2.now 0 5).sb) ?_
  rintro e w7 ⟨v7, rfl, O7, hb7⟩
  simp only [Nat.zero_add, List.nil_append] at O7
  obtain ⟨s7, k7, rfl, _, _⟩ := O7.len
  replace O7 := Lib.hid O7
  refine hK _ _ (Still.of_below hb7) ?_
  clear hK K
  have hb : BW w6 w7 := (x2.bw.call hb7)
  replace B2 := Lib.hid (B2.out.trans hb)
  replace R2 := Lib.hid (R2.out.bw hb)
  clear hb
  try simp only [Act.put, List.setIfInBounds_toArray, List.set_cons_succ, List.set_cons_zero]
  refine effect 3 rfl (by kernel_rfl) (by kernel_rfl) rfl (fun x3 K hK => ?_)
  go_simp
  refine Calls.mono (c3.out _ 6 _ (by decide) _ (O7.out.bw x3.bw).sb) ?_
  rintro e w8 ⟨rfl, hb8⟩
  refine hK _ _ (Still.of_below hb8) ?_
  clear hK K O7
  have hb : BW w7 w8 := (x3.bw.call hb8)
  replace B2 := Lib.hid (B2.out.trans hb)
  replace R2 := Lib.hid (R2.out.bw hb)
  clear hb
  try simp only [Act.put, List.setIfInBounds_toArray, List.set_cons_succ, List.set_cons_zero]
  refine tail 4 rfl (by kernel_rfl) rfl (fun xr => ?_)
  simp only [List.drop_succ_cons, List.drop_zero]
  have B3 := Lib.hid ((B2.out.trans xr.bw).row lr (ivA .u8 X3))
  have H4 := Lib.hid ((R2.out.bw xr.bw).row X3)
  have C0x := R2.out.bw xr.bw
  go_wp2_with (refine stR ar16 rfl rfl rfl rfl C0x (zeros_len 16) X3l.out ?_)
  exact bodyPost_ret (results_cell_row (p := 6) rfl _ _ _ _ _ _ _ rfl H4.out Try.underlying28 rfl (by rw [ar16.hi, ivA_size, X3l.out])) rfl ⟨rfl, B3.out⟩
end Go.Proofs.Ytjjemkfkpnemoaa
