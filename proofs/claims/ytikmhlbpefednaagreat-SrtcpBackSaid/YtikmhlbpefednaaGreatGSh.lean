/- sha's words of a block, and its mix. No condition. sha's mix. No condition. sha's take: a block into the words. No condition. sha's State in memory; New. No condition. sha's Write. No condition but the sizes'. sha's Done. No condition but the sizes'. sha's Sum of parts. No condition but the sizes'. Sums of 20 bytes compared; their length. No condition. -/
import Derived.Test.YtikmhlbpefednaaGreatGW6
namespace Go.Proofs.YtikmhlbpefednaaGreat
open Go.RowKit
theorem zero80 : ∀ w, (zeroValue 253).run Tryz.prog w = .ok (.agg (ivA .u32 (zeros 80))) w := fun w => by kernel_rfl
theorem info80 : (Tryz.prog.info? 253).map (·.size) = some 80 := by kernel_rfl
def wz (bl : List Nat) (t : Nat) : List Nat := wl bl t ++ zeros (80 - t)
theorem wz_len (bl : List Nat) (t : Nat) (h : t ≤ 80) : (wz bl t).length = 80 := by simp [wz, wl_len, zeros_len]; omega
theorem wz_get (bl : List Nat) (t i : Nat) (h : i < t) : (wz bl t).getD i 0 = (wl bl t).getD i 0 := by
 simp only [wz, List.getD_eq_getElem?_getD]
 rw [List.getElem?_append_left (by rw [wl_len]; exact h)]
theorem wz_set (bl : List Nat) (t : Nat) (h : t < 80) : (wz bl t).set t (wnext bl (wl bl t) t) = wz bl (t + 1) := by
 unfold wz
 have hz : zeros (80 - t) = 0 :: zeros (80 - (t + 1)) := by
  unfold zeros
  rw [show 80 - t = (80 - (t + 1)) + 1 by omega, List.replicate_succ]
 rw [List.set_append_right _ _ (by rw [wl_len]; exact Nat.le_refl _), wl_len, Nat.sub_self, hz]
 simp [wl]
theorem wnext_lt (bl W : List Nat) (t : Nat) (hb : ByL bl) (hW : ∀ i, W.getD i 0 < 4294967296) : wnext bl W t < 4294967296 := by
 unfold wnext
 split
 ·have h1 := numB_lt ((bl.drop (4 * t)).take 4) (fun x hx => hb x (List.mem_of_mem_drop (List.mem_of_mem_take hx)))
  have h2 : ((bl.drop (4 * t)).take 4).length ≤ 4 := by rw [List.length_take]; omega
  have h3 : 256 ^ ((bl.drop (4 * t)).take 4).length ≤ 256 ^ 4 := Nat.pow_le_pow_right (by omega) h2
  omega
 ·refine rol_lt _ _ ?_
  refine Nat.xor_lt_two_pow (n := 32) (Nat.xor_lt_two_pow (n := 32) (Nat.xor_lt_two_pow (n := 32) (hW _) (hW _)) (hW _)) (hW _)
theorem wl_lt (bl : List Nat) (hb : ByL bl) : ∀ t i, (wl bl t).getD i 0 < 4294967296
 | 0, i => by simp [wl]
 | t + 1, i => by
  rcases Nat.lt_or_ge i t with h | h
  ·have := wl_get bl t 1 i h
   rw [this]; exact wl_lt bl hb t i
  ·rcases Nat.lt_or_ge i (t + 1) with h2 | h2
   ·obtain rfl : i = t := by omega
    rw [wl_at]; exact wnext_lt bl _ _ hb (wl_lt bl hb i)
   ·rw [List.getD_eq_getElem?_getD, List.getElem?_eq_none (by rw [wl_len]; exact h2)]; decide
set_option maxRecDepth 100000 in
set_option maxHeartbeats 4000000 in
theorem shawords_any (v : Value) (len : Nat) (bl : List Nat) (h64 : 64 ≤ len) (w : World) (hv : SB w v len bl) :
  Calls Tryz.prog 156 #[v] w fun e w' => e = .returned (.agg (ivA .u32 (wl bl 80))) ∧ Below w.heap.size w w' := by
 have hwl := Lib.hid (wl_lt bl hv.2.1)
 have hby := Lib.hid hv.2.1
 replace hv := Lib.hid hv
 have z80 : Hid ((zeros 80).length = 80) := zeros_len 80
 have R0 : Hid (((w.alloc (.cells (ivA .u32 (zeros 80)) 253)).alloc (.cells (ivA .u32 (zeros 80)) 253)).heap[w.heap.size]? = some (.cells (ivA .u32 (zeros 80)) 253 (0, 0))) := by rw [Hid, hp_old _ _ _ (by simp), hp_new _ _ _ rfl]
 have W0 : Hid (((w.alloc (.cells (ivA .u32 (zeros 80)) 253)).alloc (.cells (ivA .u32 (zeros 80)) 253)).heap[w.heap.size + 1]? = some (.cells (ivA .u32 (wz bl 0)) 253 (0, 0))) := by rw [Hid, hp_new _ _ _ (by simp)]; simp [wz, wl]
 have L0 : Hid (Below w.heap.size w ((w.alloc (.cells (ivA .u32 (zeros 80)) 253)).alloc (.cells (ivA .u32 (zeros 80)) 253))) := ((Below.refl _ _).alloc (Nat.le_refl _) _).alloc (by simp) _
 go_enter Tryz.func156, Tryz.ntmps156
 go_wp2_with (refine wpList_alloc_of rfl 253 rfl _ zero80 ?_)
 generalize (w.alloc (.cells (ivA .u32 (zeros 80)) 253)).alloc (.cells (ivA .u32 (zeros 80)) 253) = w2 at *
 go_loopg [7] 80 (fun m i wx => ∃ t, m = 80 - t ∧ t ≤ 80 ∧ i = .int .i64 (t : Nat) ∧ Hid (wx.heap[w.heap.size]? = some (.cells (ivA .u32 (zeros 80)) 253 (0, 0))) ∧ Hid (wx.heap[w.heap.size + 1]? = some (.cells (ivA .u32 (wz bl t)) 253 (0, 0))) ∧ Hid (Below w.heap.size w wx))
 case atStart => exact ⟨0, by omega, by omega, rfl, R0, W0, L0⟩
 case round =>
  clear R0 W0 L0
  obtain ⟨t, rfl, ht, rfl, R, W, L⟩ := hrel
  have hlen := Lib.hid (wz_len bl t ht)
  by_cases ht80 : t < 80
  ·have hset := Lib.hid (wz_set bl t ht80)
   have c1 : ∀ wy : World, wy.heap[w.heap.size + 1]? = some (.cells (ivA .u32 (wz bl t)) 253 (0, 0)) → wy.cell? ⟨w.heap.size + 1, t, none⟩ = some (.int .u32 ((wz bl t).getD t 0 : Nat)) ∧ wy.frozen? ⟨w.heap.size + 1, t, none⟩ = false := fun wy h => ⟨iv_cell h t (by rw [hlen.out]; exact ht80), hp_frz h t⟩
   have hlt := wnext_lt bl (wl bl t) t hby.out (hwl.out t)
   by_cases ht16 : t < 16
   ·have hnx : Hid (numB ((bl.drop (4 * t)).take 4) = wnext bl (wl bl t) t) := by rw [Hid, wnext, if_pos ht16]
    generalize wnext bl (wl bl t) t = x at *
    obtain ⟨c2, f2⟩ := c1 wr W.out
    clear c1
    have W2 := Lib.hid (iv_set W.out t x)
    rw [hset.out] at W2
    have R2 : Hid ((wr.setCell ⟨w.heap.size + 1, t, none⟩ (.int .u32 (x : Nat))).heap[w.heap.size]? = some (.cells (ivA .u32 (zeros 80)) 253 (0, 0))) := (hp_oth (by omega)).trans R.out
    have L2 := Lib.hid (Below.set3 L.out (b := w.heap.size + 1) (o := t) (by omega) (.int .u32 (x : Nat)))
    replace hlt := Lib.hid hlt
    go_wp2_with fail
    refine (num_ok v len bl (4 * t) 4 _ _ (by omega) (by omega) (by omega) (by push_cast; rfl) rfl _ (hv.out.below L.out (Nat.le_refl _))).mono ?_
    rw [hnx.out]
    rintro e w' ⟨rfl, rfl⟩
    have hx2 : (x : Int) < 4294967296 := by have := hlt.out; omega
    go_wp2_with fail
    go_roundg (80 - (t + 1))
    case measure => omega
    case rel => exact ⟨t + 1, rfl, by omega, by go_num, R2, W2, L2⟩
   ·have g : ∀ d, 3 ≤ d → d ≤ 16 → ∀ x : LaterS [] wr, x.now.cell? ⟨w.heap.size + 1, t - d, none⟩ = some (.int .u32 ((wl bl t).getD (t - d) 0 : Nat)) := fun d h1 h2 x => by
     rw [x.cell (iv_cell W.out (t - d) (by rw [hlen.out]; omega)) (by simp), wz_get bl t (t - d) (by omega)]
    have g3 := g 3 (by omega) (by omega)
    have g8 := g 8 (by omega) (by omega)
    have g14 := g 14 (by omega) (by omega)
    have g16 := g 16 (by omega) (by omega)
    have l3 := hwl.out t (t - 3)
    have l8 := hwl.out t (t - 8)
    have l14 := hwl.out t (t - 14)
    have l16 := hwl.out t (t - 16)
    have hnx : Hid (rol ((wl bl t).getD (t - 3) 0 ^^^ (wl bl t).getD (t - 8) 0 ^^^ (wl bl t).getD (t - 14) 0 ^^^ (wl bl t).getD (t - 16) 0) 1 = wnext bl (wl bl t) t) := by rw [Hid, wnext, if_neg ht16]
    clear g
    generalize wnext bl (wl bl t) t = x at *
    generalize (wl bl t).getD (t - 3) 0 = p3 at *
    generalize (wl bl t).getD (t - 8) 0 = p8 at *
    generalize (wl bl t).getD (t - 14) 0 = p14 at *
    generalize (wl bl t).getD (t - 16) 0 = p16 at *
    have m1 : p3 ^^^ p8 < 4294967296 := Nat.xor_lt_two_pow (n := 32) l3 l8
    have m2 : p3 ^^^ p8 ^^^ p14 < 4294967296 := Nat.xor_lt_two_pow (n := 32) m1 l14
    have m3 : p3 ^^^ p8 ^^^ p14 ^^^ p16 < 4294967296 := Nat.xor_lt_two_pow (n := 32) m2 l16
    have x1 := u32_xor_nat p3 p8 l3 l8
    have x2 := u32_xor_nat (p3 ^^^ p8) p14 m1 l14
    have x3 := u32_xor_nat (p3 ^^^ p8 ^^^ p14) p16 m2 l16
    have hr : Hid (∀ w, Calls Tryz.prog 158 #[.int .u32 (p3 ^^^ p8 ^^^ p14 ^^^ p16 : Nat), .int .i64 1] w fun e w' => e = .returned (.int .u32 (x : Nat)) ∧ w' = w) := fun w => by
     have := rol_any (p3 ^^^ p8 ^^^ p14 ^^^ p16) 1 m3 (.inl rfl) w
     rw [hnx.out] at this
     exact this.mono fun e w' ⟨h, h'⟩ => ⟨h, h'.symm⟩
    have s80 : (t : Int) < 80 := by omega
    have s16 : (16 : Int) ≤ t := by omega
    go_wp2_with fail
    refine wp_region_gg [] [] [21] (by kernel_rfl) ?_
    refine hoist [] [] (a1 := ?_) 0 rfl (by kernel_rfl) (.inl ⟨rfl, rfl⟩) rfl rfl rfl (fun x K hK => ?_) ?_
    rotate_left
    ·go_big_quiet_op
     exact hK
    refine hoist [] [] (a1 := ?_) 1 rfl (by kernel_rfl) (.inl ⟨rfl, rfl⟩) rfl rfl rfl (fun x K hK => ?_) ?_
    rotate_left
    ·go_big_quiet_op
     exact hK
    refine hoist [] [] (a1 := ?_) 2 rfl (by kernel_rfl) (.inl ⟨rfl, rfl⟩) rfl rfl rfl (fun x K hK => ?_) ?_
    rotate_left
    ·go_big_quiet_op
     exact hK
    refine hoist [] [] (a1 := ?_) 3 rfl (by kernel_rfl) (.inl ⟨rfl, rfl⟩) rfl rfl rfl (fun x K hK => ?_) ?_
    rotate_left
    ·go_big_quiet_op
     exact hK
    refine hoist [] [] (a1 := ?_) 4 rfl (by kernel_rfl) (.inl ⟨rfl, rfl⟩) rfl rfl rfl (fun x K hK => ?_) ?_
    rotate_left
    ·go_big_quiet_op
     exact hK
    refine hoist [] [] (a1 := ?_) 5 rfl (by kernel_rfl) (.inl ⟨rfl, rfl⟩) rfl rfl rfl (fun x K hK => ?_) ?_
    rotate_left
    ·go_big_quiet_op
     exact hK
    refine hoist [] [] (a1 := ?_) 6 rfl (by kernel_rfl) (.inl ⟨rfl, rfl⟩) rfl rfl rfl (fun x K hK => ?_) ?_
    rotate_left
    ·go_big_quiet_op
     exact hK
    refine hoist [] [] (a1 := ?_) 7 rfl (by kernel_rfl) (.inl ⟨rfl, rfl⟩) rfl rfl rfl (fun x K hK => ?_) ?_
    rotate_left
    ·go_big_quiet_op
     exact hK
    refine hoist [] [] (a1 := ?_) 8 rfl (by kernel_rfl) (.inl ⟨rfl, rfl⟩) rfl rfl rfl (fun x K hK => ?_) ?_
    rotate_left
    ·go_big_quiet_op
     exact hK
    refine hoist [] [] (a1 := ?_) 9 rfl (by kernel_rfl) (.inl ⟨rfl, rfl⟩) rfl rfl rfl (fun x K hK => ?_) ?_
    rotate_left
    ·go_big_quiet_op
     exact hK
    refine hoist [] [] (a1 := ?_) 10 rfl (by kernel_rfl) (.inl ⟨rfl, rfl⟩) rfl rfl rfl (fun x K hK => ?_) ?_
    rotate_left
    ·go_big_quiet_op
     exact hK
    refine hoist [] [] (a1 := ?_) 11 rfl (by kernel_rfl) (.inl ⟨rfl, rfl⟩) rfl rfl rfl (fun x K hK => ?_) ?_
    rotate_left
    ·go_big_quiet_op
     exact hK
    refine hoist [] [] (a1 := ?_) 12 rfl (by kernel_rfl) (.inl ⟨rfl, rfl⟩) rfl rfl rfl (fun x K hK => ?_) ?_
    rotate_left
    ·go_big_quiet_op
     exact hK
    refine hoist [] [] (a1 := ?_) 13 rfl (by kernel_rfl) (.inl ⟨rfl, rfl⟩) rfl rfl rfl (fun x K hK => ?_) ?_
    rotate_left
    ·go_big_quiet_op
     exact hK
    refine hoist [] [] (a1 := ?_) 14 rfl (by kernel_rfl) (.inl ⟨rfl, rfl⟩) rfl rfl rfl (fun x K hK => ?_) ?_
    rotate_left
    ·go_big_quiet_op
     exact hK
    refine hoist [] [] (a1 := ?_) 15 rfl (by kernel_rfl) (.inl ⟨rfl, rfl⟩) rfl rfl rfl (fun x K hK => ?_) ?_
    rotate_left
    ·go_big_quiet_op
     exact hK
    refine hoist [] [] (a1 := ?_) 16 rfl (by kernel_rfl) (.inl ⟨rfl, rfl⟩) rfl rfl rfl (fun x K hK => ?_) ?_
    rotate_left
    ·go_big_quiet_op
     exact hK
    refine hoist [] [] (a1 := ?_) 17 rfl (by kernel_rfl) (.inl ⟨rfl, rfl⟩) rfl rfl rfl (fun x K hK => ?_) ?_
    rotate_left
    ·go_big_quiet_op
     exact hK
    refine hoist [] [] (a1 := ?_) 18 rfl (by kernel_rfl) (.inl ⟨rfl, rfl⟩) rfl rfl rfl (fun x K hK => ?_) ?_
    rotate_left
    ·go_big_quiet_op
     exact hK
    refine hoist [] [] (a1 := ?_) 19 rfl (by kernel_rfl) (.inl ⟨rfl, rfl⟩) rfl rfl rfl (fun x K hK => ?_) ?_
    rotate_left
    ·go_big_quiet_op
     exact hK
    refine hoist_call [] [] (a1 := ?_) 20 rfl (by kernel_rfl) (.inl ⟨rfl, rfl⟩) rfl rfl rfl (fun x K hK => ?_) ?_
    rotate_left
    ·go_big_quiet_op
     apply Exists.intro
     refine ⟨fun y => ?_, ?_⟩
     ·exact Calls.laterS_same (hr.out _)
     ·exact hK
    refine tail 21 rfl (by kernel_rfl) rfl (fun xr => ?_)
    simp only [List.drop_succ_cons, List.drop_zero]
    have W1 := hp_st xr.ok W.out (by simp)
    have R1 := hp_st xr.ok R.out (by simp)
    obtain ⟨c2, f2⟩ := c1 xr.now W1
    have W2 := Lib.hid (iv_set W1 t x)
    rw [hset.out] at W2
    have R2 : Hid ((xr.now.setCell ⟨w.heap.size + 1, t, none⟩ (.int .u32 (x : Nat))).heap[w.heap.size]? = some (.cells (ivA .u32 (zeros 80)) 253 (0, 0))) := (hp_oth (by omega)).trans R1
    have L2 := Lib.hid (Below.set3 (L.out.trans (xr.ok.below L.out.size (by simp))) (b := w.heap.size + 1) (o := t) (by omega) (.int .u32 (x : Nat)))
    clear c1 g3 g8 g14 g16 W1 R1
    go_wp2_with fail
    go_roundg (80 - (t + 1))
    case measure => omega
    case rel => exact ⟨t + 1, rfl, by omega, by go_num, R2, W2, L2⟩
  ·obtain rfl : t = 80 := by omega
   have e80 : Hid (wz bl 80 = wl bl 80) := by simp [Hid, wz, zeros]
   rw [e80.out] at W hlen
   go_wp2_with (first | (refine wpList_load_row rfl 253 _ rfl _ rfl _ _ _ _ W.out Tryz.underlying253 rfl (by rw [info80, ivA_size, hlen.out]) ?_) | (refine wpList_store_row rfl 253 _ _ rfl _ _ rfl rfl _ _ R.out (by rw [info80, ivA_size, hlen.out]) (by rw [ivA_size, ivA_size, z80.out, hlen.out]) (ivA_one _ _) ?_))
   exact bodyPost_ret (results_cell_row (p := 2) rfl _ _ (w.heap.size) _ _ _ _ rfl (hp_row R.out _) Tryz.underlying253 rfl (by rw [info80, ivA_size, hlen.out])) rfl ⟨rfl, Below.setRow L.out (by omega) _⟩
end Go.Proofs.YtikmhlbpefednaaGreat

namespace Go.Proofs.YtikmhlbpefednaaGreat
open Go.RowKit
theorem not_nat (b : Nat) (hb : b < 4294967296) : bits .xor .u32 4294967295 (b : Int) = ((4294967295 - b : Nat) : Int) := by
 rw [show (4294967295 : Int) = ((4294967295 : Nat) : Int) from rfl, u32_xor_nat _ _ (by decide) hb]
 congr 1
 have h := congrArg BitVec.toNat (BitVec.allOnes_xor (x := BitVec.ofNat 32 b))
 rw [BitVec.toNat_xor, BitVec.toNat_not, BitVec.toNat_allOnes, BitVec.toNat_ofNat, Nat.mod_eq_of_lt (by omega)] at h
 exact h
set_option maxRecDepth 100000 in
set_option maxHeartbeats 4000000 in
theorem mix_two (t b c d : Nat) (ht : t < 80) (hb : b < 4294967296) (hc : c < 4294967296) (hd : d < 4294967296) (w : World) :
  Calls Tryz.prog 157 #[.int .i64 (t : Nat), .int .u32 (b : Nat), .int .u32 (c : Nat), .int .u32 (d : Nat)] w fun e w' => e = .returned (.tuple #[.int .u32 (fmix t b c d : Nat), .int .u32 (kmix t : Nat)]) ∧ w = w' := by
 have h1 : ∀ x y : Nat, x < 4294967296 → x &&& y < 4294967296 := fun x y h => Nat.lt_of_le_of_lt Nat.and_le_left h
 have e1 := u32_and_nat b c hb hc
 have e2 := not_nat b hb
 have e3 := u32_and_nat (4294967295 - b) d (by omega) hd
 have e4 := u32_or_nat (b &&& c) ((4294967295 - b) &&& d) (h1 _ _ hb) (h1 _ _ (by omega))
 have e5 := u32_xor_nat b c hb hc
 have e6 := u32_xor_nat (b ^^^ c) d (Nat.xor_lt_two_pow (n := 32) hb hc) hd
 have e7 := u32_and_nat b d hb hd
 have e8 := u32_and_nat c d hc hd
 have e9 := u32_or_nat (b &&& c) (b &&& d) (h1 _ _ hb) (h1 _ _ hb)
 have e10 := u32_or_nat ((b &&& c) ||| (b &&& d)) (c &&& d) (Nat.or_lt_two_pow (n := 32) (h1 _ _ hb) (h1 _ _ hb)) (h1 _ _ hc)
 have hf : Hid (fmix t b c d = if t < 20 then (b &&& c) ||| ((4294967295 - b) &&& d) else if t < 40 then b ^^^ c ^^^ d else if t < 60 then (b &&& c) ||| (b &&& d) ||| (c &&& d) else b ^^^ c ^^^ d) := rfl
 have hk : Hid (kmix t = if t < 20 then 1518500249 else if t < 40 then 1859775393 else if t < 60 then 2400959708 else 3395469782) := rfl
 have hsg : IntKind.u32.signed = false := rfl
 have hmx : IntKind.u32.max = 4294967295 := rfl
 clear hb hc hd h1
 generalize fmix t b c d = F at *
 generalize kmix t = K0 at *
 generalize 4294967295 - b = nb at *
 generalize b &&& c = bc at *
 generalize nb &&& d = nd at *
 generalize b ^^^ c = bxc at *
 generalize b &&& d = bd at *
 generalize c &&& d = cd at *
 by_cases t1 : t < 20
 ·have q := hf.out
  have q' := hk.out
  rw [if_pos t1] at q q'
  replace q := Lib.hid q
  replace q' := Lib.hid q'
  go_enter Tryz.func157, Tryz.ntmps157
  go_wp2_with fail
  go_ret2
  exact ⟨by rw [q.out, q'.out]; rfl, rfl⟩
 ·by_cases t2 : t < 40
  ·have q := hf.out
   have q' := hk.out
   rw [if_neg t1, if_pos t2] at q q'
   replace q := Lib.hid q
   replace q' := Lib.hid q'
   go_enter Tryz.func157, Tryz.ntmps157
   go_wp2_with fail
   go_ret2
   exact ⟨by rw [q.out, q'.out]; rfl, rfl⟩
  ·by_cases t3 : t < 60
   ·have q := hf.out
    have q' := hk.out
    rw [if_neg t1, if_neg t2, if_pos t3] at q q'
    replace q := Lib.hid q
    replace q' := Lib.hid q'
    go_enter Tryz.func157, Tryz.ntmps157
    go_wp2_with fail
    go_ret2
    exact ⟨by rw [q.out, q'.out]; rfl, rfl⟩
   ·have q := hf.out
    have q' := hk.out
    rw [if_neg t1, if_neg t2, if_neg t3] at q q'
    replace q := Lib.hid q
    replace q' := Lib.hid q'
    go_enter Tryz.func157, Tryz.ntmps157
    go_wp2_with fail
    go_ret2
    exact ⟨by rw [q.out, q'.out]; rfl, rfl⟩
end Go.Proofs.YtikmhlbpefednaaGreat

namespace Go.Proofs.YtikmhlbpefednaaGreat
open Go.RowKit
theorem zero5 : ∀ w, (zeroValue 237).run Tryz.prog w = .ok (.agg (ivA .u32 (zeros 5))) w := fun w => by kernel_rfl
theorem info5 : (Tryz.prog.info? 237).map (·.size) = some 5 := by kernel_rfl
def W5 (H : List Nat) : Prop := H.length = 5 ∧ ∀ i, H.getD i 0 < 4294967296
theorem vstep_w5 (x t : Nat) (V : List Nat) (h : W5 V) : W5 (vstep x t V) := by
 refine ⟨rfl, fun i => ?_⟩
 unfold vstep
 rcases (show i = 0 ∨ i = 1 ∨ i = 2 ∨ i = 3 ∨ i = 4 ∨ 5 ≤ i by omega) with rfl | rfl | rfl | rfl | rfl | hi
 ·exact Nat.mod_lt _ (by decide)
 ·exact h.2 0
 ·exact rol_lt _ _ (h.2 1)
 ·exact h.2 2
 ·exact h.2 3
 ·rw [List.getD_eq_getElem?_getD, List.getElem?_eq_none (by simpa using hi)]; decide
theorem vt_w5 (W H : List Nat) (h : W5 H) : ∀ t, W5 (vt W H t)
 | 0 => h
 | t + 1 => vstep_w5 _ _ _ (vt_w5 W H h t)
theorem addH_w5 (V H : List Nat) : W5 (addH V H) := by
 refine ⟨rfl, fun i => ?_⟩
 unfold addH
 rcases (show i = 0 ∨ i = 1 ∨ i = 2 ∨ i = 3 ∨ i = 4 ∨ 5 ≤ i by omega) with rfl | rfl | rfl | rfl | rfl | hi
 ·exact Nat.mod_lt _ (by decide)
 ·exact Nat.mod_lt _ (by decide)
 ·exact Nat.mod_lt _ (by decide)
 ·exact Nat.mod_lt _ (by decide)
 ·exact Nat.mod_lt _ (by decide)
 ·rw [List.getD_eq_getElem?_getD, List.getElem?_eq_none (by simpa using hi)]; decide
structure Tk (w wx : World) (H V : List Nat) : Prop where
 h : wx.heap[w.heap.size]? = some (.cells (ivA .u32 H) 237 (0, 0))
 r : wx.heap[w.heap.size + 1]? = some (.cells (ivA .u32 (zeros 5)) 237 (0, 0))
 v : wx.heap[w.heap.size + 2]? = some (.cells (ivA .u32 V) 237 (0, 0))
 b : Below w.heap.size w wx
theorem Tk.still {w wx wy : World} {H V : List Nat} (h : Tk w wx H V) (hs : Still [] wx wy) : Tk w wy H V :=
 ⟨hp_st hs h.h (by simp), hp_st hs h.r (by simp), hp_st hs h.v (by simp), h.b.trans (hs.below h.b.size (by simp))⟩
theorem Tk.row {w wx : World} {H V : List Nat} (h : Tk w wx H V) (V' : List Nat) : Tk w (wx.setRow (w.heap.size + 2) (ivA .u32 V')) H V' :=
 ⟨(hp_rowo _ (by omega)).trans h.h, (hp_rowo _ (by omega)).trans h.r, hp_row h.v _, Below.setRow h.b (by omega) _⟩
theorem Tk.set {w wx : World} {H V : List Nat} (h : Tk w wx H V) (i x : Nat) : Tk w (wx.setCell ⟨w.heap.size + 2, i, none⟩ (.int .u32 (x : Nat))) H (V.set i x) :=
 ⟨(hp_oth (by omega)).trans h.h, (hp_oth (by omega)).trans h.r, iv_set h.v i x, Below.set3 h.b (by omega) _⟩
def ah (V H : List Nat) : Nat → List Nat
 | 0 => V
 | i + 1 => (ah V H i).set i ((V.getD i 0 + H.getD i 0) % 4294967296)
theorem ah_len (V H : List Nat) (hV : V.length = 5) : ∀ i, (ah V H i).length = 5
 | 0 => hV
 | i + 1 => by rw [ah, List.length_set, ah_len V H hV i]
theorem ah_get (V H : List Nat) : ∀ i j, i ≤ j → (ah V H i).getD j 0 = V.getD j 0
 | 0, _, _ => rfl
 | i + 1, j, h => by
  rw [ah, List.getD_eq_getElem?_getD, List.getElem?_set_ne (by omega), ← List.getD_eq_getElem?_getD]
  exact ah_get V H i j (by omega)
theorem ah_end (V H : List Nat) (hV : V.length = 5) : ah V H 5 = addH V H := by
 match V, hV with
 | [a, b, c, d, e], _ => rfl
set_option maxRecDepth 100000 in
set_option maxHeartbeats 8000000 in
theorem take_any (H : List Nat) (hH : W5 H) (v : Value) (len : Nat) (bl : List Nat) (h64 : 64 ≤ len) (w : World) (hv : SB w v len bl) :
  Calls Tryz.prog 144 #[.agg (ivA .u32 H), v] w fun e w' => e = .returned (.agg (ivA .u32 (takeH H bl))) ∧ Below w.heap.size w w' := by
 have hwd := Lib.hid (shawords_any v len bl h64)
 have hwl := Lib.hid (wl_lt bl hv.2.1 80)
 have hWl : Hid ((wl bl 80).length = 80) := wl_len bl 80
 have hvt := Lib.hid (vt_w5 (wl bl 80) H hH)
 have hT : Hid (takeH H bl = addH (vt (wl bl 80) H 80) H) := rfl
 generalize takeH H bl = TH at *
 generalize wl bl 80 = W at *
 have hHl := Lib.hid hH.1
 replace hv := Lib.hid hv
 replace hH := Lib.hid hH
 have z5 : Hid ((zeros 5).length = 5) := zeros_len 5
 have A0 : Hid (((w.alloc (.cells (ivA .u32 H) 237)).alloc (.cells (ivA .u32 (zeros 5)) 237)).heap[w.heap.size]? = some (.cells (ivA .u32 H) 237 (0, 0))) := by rw [Hid, hp_old _ _ _ (by simp), hp_new _ _ _ rfl]
 have A1 : Hid (((w.alloc (.cells (ivA .u32 H) 237)).alloc (.cells (ivA .u32 (zeros 5)) 237)).heap[w.heap.size + 1]? = some (.cells (ivA .u32 (zeros 5)) 237 (0, 0))) := by rw [Hid, hp_new _ _ _ (by simp)]
 have L0 : Hid (Below w.heap.size w ((w.alloc (.cells (ivA .u32 H) 237)).alloc (.cells (ivA .u32 (zeros 5)) 237))) := ((Below.refl _ _).alloc (Nat.le_refl _) _).alloc (by simp) _
 have Z0 : Hid (((w.alloc (.cells (ivA .u32 H) 237)).alloc (.cells (ivA .u32 (zeros 5)) 237)).heap.size = w.heap.size + 2) := by simp [Hid]
 go_enter Tryz.func144, Tryz.ntmps144
 go_wp2_with (first | (refine wpList_alloc_of rfl 237 rfl _ zero5 ?_) | (refine wpList_load_row rfl 237 _ rfl _ rfl _ _ _ _ A0.out Tryz.underlying237 rfl (by rw [info5, ivA_size, hHl.out]) ?_) | (refine wpList_store_new rfl 237 _ _ rfl _ (ivA .u32 H) _ rfl rfl (by rw [info5, ivA_size, hHl.out]) (by rw [ivA_size, ivA_size, z5.out, hHl.out]) (ivA_one _ _) ?_))
 have K0 : Hid (Tk w (((w.alloc (.cells (ivA .u32 H) 237)).alloc (.cells (ivA .u32 (zeros 5)) 237)).alloc (.cells (ivA .u32 H) 237)) H H) :=
  ⟨hp_keep A0.out _, hp_keep A1.out _, hp_new _ _ _ (by rw [Z0.out]), L0.out.alloc (by rw [Z0.out]; omega) _⟩
 generalize ((w.alloc (.cells (ivA .u32 H) 237)).alloc (.cells (ivA .u32 (zeros 5)) 237)).alloc (.cells (ivA .u32 H) 237) = w3 at *
 clear A0 A1 L0 Z0
 refine (hwd.out _ (hv.out.below K0.out.b (Nat.le_refl _))).mono ?_
 rintro e w4 ⟨rfl, hb4⟩
 replace K0 := Lib.hid (K0.out.still (Still.of_below hb4))
 clear hb4
 go_wp2_with fail
 go_loopg [15] 80 (fun m i wx => ∃ t, m = 80 - t ∧ t ≤ 80 ∧ i = .int .i64 (t : Nat) ∧ Hid (Tk w wx H (vt W H t)))
 case atStart => exact ⟨0, by omega, by omega, rfl, K0⟩
 case round =>
  clear K0
  obtain ⟨t, rfl, ht, rfl, K0⟩ := hrel
  have hV := hvt.out t
  by_cases ht80 : t < 80
  ·have hidx : ∀ wy, (Instr.index 253 (.agg (ivA .u32 W)) (.int .i64 (t : Nat))).run Tryz.prog wy = .ok (.int .u32 (W.getD t 0 : Nat)) wy := fun wy => run_index_iv _ 33 80 .u32 W Tryz.underlying253 Tryz.underlying33 (by kernel_rfl) hWl.out t ht80 wy
   have hVl := Lib.hid hV.1
   have b0 := Lib.hid (hV.2 0)
   have b1 := Lib.hid (hV.2 1)
   have b2 := Lib.hid (hV.2 2)
   have b3 := Lib.hid (hV.2 3)
   have hx := Lib.hid (hwl.out t)
   have hnx : Hid (vt W H (t + 1) = [(rol ((vt W H t).getD 0 0) 5 + fmix t ((vt W H t).getD 1 0) ((vt W H t).getD 2 0) ((vt W H t).getD 3 0) + (vt W H t).getD 4 0 + kmix t + W.getD t 0) % 4294967296, (vt W H t).getD 0 0, rol ((vt W H t).getD 1 0) 30, (vt W H t).getD 2 0, (vt W H t).getD 3 0]) := rfl
   have g : ∀ i, i < 5 → wr.cell? ⟨w.heap.size + 2, i, none⟩ = some (.int .u32 ((vt W H t).getD i 0 : Nat)) := fun i hi => iv_cell K0.out.v i (by rw [hVl.out]; exact hi)
   have g0 := g 0 (by omega)
   have g1 := g 1 (by omega)
   have g2 := g 2 (by omega)
   have g3 := g 3 (by omega)
   have g4 := g 4 (by omega)
   clear g hV
   generalize hVV : vt W H (t + 1) = V' at *
   replace hVV := Lib.hid hVV
   generalize vt W H t = V at *
   have hmx := Lib.hid (mix_two t (V.getD 1 0) (V.getD 2 0) (V.getD 3 0) ht80 b1.out b2.out b3.out)
   have hr5 := Lib.hid (rol_any (V.getD 0 0) 5 b0.out (.inr (.inl rfl)))
   have hr30 := Lib.hid (rol_any (V.getD 1 0) 30 b1.out (.inr (.inr rfl)))
   generalize V.getD 0 0 = v0 at *
   generalize V.getD 1 0 = v1 at *
   generalize V.getD 2 0 = v2 at *
   generalize V.getD 3 0 = v3 at *
   generalize V.getD 4 0 = v4 at *
   generalize W.getD t 0 = x at *
   generalize rol v0 5 = r5 at *
   generalize rol v1 30 = r30 at *
   generalize fmix t v1 v2 v3 = f at *
   generalize kmix t = k at *
   go_wp2_with fail
   refine (hmx.out _).mono ?_
   rintro e w' ⟨rfl, rfl⟩
   go_wp2_with fail
   have l0 : ∀ x : LaterS [] wr, x.now.cell? ⟨w.heap.size + 2, 0, none⟩ = some (.int .u32 (v0 : Nat)) := fun x => x.cell g0 (by simp)
   have l1 : ∀ x : LaterS [] wr, x.now.cell? ⟨w.heap.size + 2, 1, none⟩ = some (.int .u32 (v1 : Nat)) := fun x => x.cell g1 (by simp)
   have l2 : ∀ x : LaterS [] wr, x.now.cell? ⟨w.heap.size + 2, 2, none⟩ = some (.int .u32 (v2 : Nat)) := fun x => x.cell g2 (by simp)
   have l3 : ∀ x : LaterS [] wr, x.now.cell? ⟨w.heap.size + 2, 3, none⟩ = some (.int .u32 (v3 : Nat)) := fun x => x.cell g3 (by simp)
   have l4 : ∀ x : LaterS [] wr, x.now.cell? ⟨w.heap.size + 2, 4, none⟩ = some (.int .u32 (v4 : Nat)) := fun x => x.cell g4 (by simp)
   refine wp_region_gg [] [] [] (by kernel_rfl) ?_
   refine hoist [] [] (a1 := ?_) 0 rfl (by kernel_rfl) (.inl ⟨rfl, rfl⟩) rfl rfl rfl (fun x K hK => ?_) ?_
   rotate_left
   ·go_big_quiet_op
    exact hK
   refine hoist [] [] (a1 := ?_) 1 rfl (by kernel_rfl) (.inl ⟨rfl, rfl⟩) rfl rfl rfl (fun x K hK => ?_) ?_
   rotate_left
   ·go_big_quiet_op
    exact hK
   refine hoist_call [] [] (a1 := ?_) 2 rfl (by kernel_rfl) (.inl ⟨rfl, rfl⟩) rfl rfl rfl (fun x K hK => ?_) ?_
   rotate_left
   ·go_big_quiet_op
    apply Exists.intro
    refine ⟨fun y => ?_, ?_⟩
    ·exact Calls.laterS_same ((hr5.out _).mono fun e w' ⟨h, h'⟩ => ⟨h, h'.symm⟩)
    ·exact hK
   refine hoist [] [] (a1 := ?_) 3 rfl (by kernel_rfl) (.inl ⟨rfl, rfl⟩) rfl rfl rfl (fun x K hK => ?_) ?_
   rotate_left
   ·go_big_quiet_op
    exact hK
   refine hoist [] [] (a1 := ?_) 4 rfl (by kernel_rfl) (.inl ⟨rfl, rfl⟩) rfl rfl rfl (fun x K hK => ?_) ?_
   rotate_left
   ·go_big_quiet_op
    exact hK
   refine hoist [] [] (a1 := ?_) 5 rfl (by kernel_rfl) (.inl ⟨rfl, rfl⟩) rfl rfl rfl (fun x K hK => ?_) ?_
   rotate_left
   ·go_big_quiet_op
    exact hK
   refine hoist [] [] (a1 := ?_) 6 rfl (by kernel_rfl) (.inl ⟨rfl, rfl⟩) rfl rfl rfl (fun x K hK => ?_) ?_
   rotate_left
   ·go_big_quiet_op
    exact hK
   refine hoist [] [] (a1 := ?_) 7 rfl (by kernel_rfl) (.inl ⟨rfl, rfl⟩) rfl rfl rfl (fun x K hK => ?_) ?_
   rotate_left
   ·go_big_quiet_op
    exact hK
   refine hoist [] [] (a1 := ?_) 8 rfl (by kernel_rfl) (.inl ⟨rfl, rfl⟩) rfl rfl rfl (fun x K hK => ?_) ?_
   rotate_left
   ·go_big_quiet_op
    exact hK
   refine hoist [] [] (a1 := ?_) 9 rfl (by kernel_rfl) (.inl ⟨rfl, rfl⟩) rfl rfl rfl (fun x K hK => ?_) ?_
   rotate_left
   ·go_big_quiet_op
    exact hK
   refine hoist [] [] (a1 := ?_) 10 rfl (by kernel_rfl) (.inl ⟨rfl, rfl⟩) rfl rfl rfl (fun x K hK => ?_) ?_
   rotate_left
   ·go_big_quiet_op
    exact hK
   refine hoist [] [] (a1 := ?_) 11 rfl (by kernel_rfl) (.inl ⟨rfl, rfl⟩) rfl rfl rfl (fun x K hK => ?_) ?_
   rotate_left
   ·go_big_quiet_op
    exact hK
   refine hoist [] [] (a1 := ?_) 12 rfl (by kernel_rfl) (.inl ⟨rfl, rfl⟩) rfl rfl rfl (fun x K hK => ?_) ?_
   rotate_left
   ·go_big_quiet_op
    exact hK
   refine done (by kernel_rfl) (fun xr => ?_)
   have hs : (((r5 : Int) + (f : Int) + (v4 : Int) + (k : Int)) % 4294967296 + (x : Int)) % 4294967296 = (((r5 + f + v4 + k + x) % 4294967296 : Nat) : Int) := by omega
   rw [hs]
   clear hs
   generalize (r5 + f + v4 + k + x) % 4294967296 = sm at *
   have K1 := Lib.hid (K0.out.still xr.ok)
   replace g0 := xr.cell g0 (by simp)
   replace g1 := xr.cell g1 (by simp)
   replace g2 := xr.cell g2 (by simp)
   replace g3 := xr.cell g3 (by simp)
   clear l0 l1 l2 l3 l4 g4 K0 hidx
   generalize xr.now = wy at *
   clear xr
   go_wp2_with fail
   have l0 : ∀ x : LaterS [] wy, x.now.cell? ⟨w.heap.size + 2, 0, none⟩ = some (.int .u32 (v0 : Nat)) := fun x => x.cell g0 (by simp)
   have l1 : ∀ x : LaterS [] wy, x.now.cell? ⟨w.heap.size + 2, 1, none⟩ = some (.int .u32 (v1 : Nat)) := fun x => x.cell g1 (by simp)
   have l2 : ∀ x : LaterS [] wy, x.now.cell? ⟨w.heap.size + 2, 2, none⟩ = some (.int .u32 (v2 : Nat)) := fun x => x.cell g2 (by simp)
   have l3 : ∀ x : LaterS [] wy, x.now.cell? ⟨w.heap.size + 2, 3, none⟩ = some (.int .u32 (v3 : Nat)) := fun x => x.cell g3 (by simp)
   refine wp_region_gg [] [] [11] (by kernel_rfl) ?_
   refine hoist [] [] (a1 := ?_) 0 rfl (by kernel_rfl) (.inl ⟨rfl, rfl⟩) rfl rfl rfl (fun x K hK => ?_) ?_
   rotate_left
   ·go_big_quiet_op
    exact hK
   refine hoist [] [] (a1 := ?_) 1 rfl (by kernel_rfl) (.inl ⟨rfl, rfl⟩) rfl rfl rfl (fun x K hK => ?_) ?_
   rotate_left
   ·go_big_quiet_op
    exact hK
   refine hoist [] [] (a1 := ?_) 2 rfl (by kernel_rfl) (.inl ⟨rfl, rfl⟩) rfl rfl rfl (fun x K hK => ?_) ?_
   rotate_left
   ·go_big_quiet_op
    exact hK
   refine hoist [] [] (a1 := ?_) 3 rfl (by kernel_rfl) (.inl ⟨rfl, rfl⟩) rfl rfl rfl (fun x K hK => ?_) ?_
   rotate_left
   ·go_big_quiet_op
    exact hK
   refine hoist [] [] (a1 := ?_) 4 rfl (by kernel_rfl) (.inl ⟨rfl, rfl⟩) rfl rfl rfl (fun x K hK => ?_) ?_
   rotate_left
   ·go_big_quiet_op
    exact hK
   refine hoist_call [] [] (a1 := ?_) 5 rfl (by kernel_rfl) (.inl ⟨rfl, rfl⟩) rfl rfl rfl (fun x K hK => ?_) ?_
   rotate_left
   ·go_big_quiet_op
    apply Exists.intro
    refine ⟨fun y => ?_, ?_⟩
    ·exact Calls.laterS_same ((hr30.out _).mono fun e w' ⟨h, h'⟩ => ⟨h, h'.symm⟩)
    ·exact hK
   refine hoist [] [] (a1 := ?_) 6 rfl (by kernel_rfl) (.inl ⟨rfl, rfl⟩) rfl rfl rfl (fun x K hK => ?_) ?_
   rotate_left
   ·go_big_quiet_op
    exact hK
   refine hoist [] [] (a1 := ?_) 7 rfl (by kernel_rfl) (.inl ⟨rfl, rfl⟩) rfl rfl rfl (fun x K hK => ?_) ?_
   rotate_left
   ·go_big_quiet_op
    exact hK
   refine hoist [] [] (a1 := ?_) 8 rfl (by kernel_rfl) (.inl ⟨rfl, rfl⟩) rfl rfl rfl (fun x K hK => ?_) ?_
   rotate_left
   ·go_big_quiet_op
    exact hK
   refine hoist [] [] (a1 := ?_) 9 rfl (by kernel_rfl) (.inl ⟨rfl, rfl⟩) rfl rfl rfl (fun x K hK => ?_) ?_
   rotate_left
   ·go_big_quiet_op
    exact hK
   refine hoist [] [] (a1 := ?_) 10 rfl (by kernel_rfl) (.inl ⟨rfl, rfl⟩) rfl rfl rfl (fun x K hK => ?_) ?_
   rotate_left
   ·go_big_quiet_op
    exact hK
   refine tail 11 rfl (by kernel_rfl) rfl (fun xr => ?_)
   simp only [List.drop_succ_cons, List.drop_zero]
   have K2 := Lib.hid (K1.out.still xr.ok)
   clear l0 l1 l2 l3 g0 g1 g2 g3 K1
   rw [show (#[Value.int .u32 (sm : Nat), .int .u32 (v0 : Nat), .int .u32 (r30 : Nat), .int .u32 (v2 : Nat), .int .u32 (v3 : Nat)] : Array Value) = ivA .u32 [sm, v0, r30, v2, v3] from rfl]
   have hv5 : Hid (V'.length = 5) := by rw [Hid, hnx.out]; rfl
   rw [← hnx.out]
   go_wp2_with (refine wpList_store_row rfl 237 _ _ rfl _ (ivA .u32 V') rfl rfl _ _ K2.out.v (by rw [info5, ivA_size, hv5.out]) (by rw [ivA_size, ivA_size, hVl.out, hv5.out]) (ivA_one _ _) ?_)
   go_roundg (80 - (t + 1))
   case measure => omega
   case rel => exact ⟨t + 1, rfl, by omega, by go_num, by rw [hVV.out]; exact K2.out.row V'⟩
  ·obtain rfl : t = 80 := by omega
   have hVl := Lib.hid hV.1
   have hVb := Lib.hid hV.2
   have hHb := Lib.hid hH.out.2
   clear hV hvt
   generalize vt W H 80 = V at *
   go_wp2_with fail
   go_loopg [54] 5 (fun m i wx => ∃ j, m = 5 - j ∧ j ≤ 5 ∧ i = .int .i64 (j : Nat) ∧ Hid (Tk w wx H (ah V H j)))
   case atStart => exact ⟨0, by omega, by omega, rfl, K0⟩
   case round =>
    clear K0
    obtain ⟨j, rfl, hj, rfl, K0⟩ := hrel
    have hal := Lib.hid (ah_len V H hVl.out j)
    by_cases hj5 : j < 5
    ·have hnx : Hid ((ah V H j).set j ((V.getD j 0 + H.getD j 0) % 4294967296) = ah V H (j + 1)) := rfl
     have l0 : ∀ x : LaterS [] wr, x.now.cell? ⟨w.heap.size + 2, j, none⟩ = some (.int .u32 (V.getD j 0 : Nat)) := fun x => by
      rw [x.cell (iv_cell K0.out.v j (by rw [hal.out]; exact hj5)) (by simp), ah_get V H j j (Nat.le_refl _)]
     have l1 : ∀ x : LaterS [] wr, x.now.cell? ⟨w.heap.size, j, none⟩ = some (.int .u32 (H.getD j 0 : Nat)) := fun x => x.cell (iv_cell K0.out.h j (by rw [hHl.out]; exact hj5)) (by simp)
     generalize V.getD j 0 = p at *
     generalize H.getD j 0 = q at *
     go_wp2_with fail
     refine wp_region_gg [] [] [7] (by kernel_rfl) ?_
     refine hoist [] [] (a1 := ?_) 0 rfl (by kernel_rfl) (.inl ⟨rfl, rfl⟩) rfl rfl rfl (fun x K hK => ?_) ?_
     rotate_left
     ·go_big_quiet_op
      exact hK
     refine hoist [] [] (a1 := ?_) 1 rfl (by kernel_rfl) (.inl ⟨rfl, rfl⟩) rfl rfl rfl (fun x K hK => ?_) ?_
     rotate_left
     ·go_big_quiet_op
      exact hK
     refine hoist [] [] (a1 := ?_) 2 rfl (by kernel_rfl) (.inl ⟨rfl, rfl⟩) rfl rfl rfl (fun x K hK => ?_) ?_
     rotate_left
     ·go_big_quiet_op
      exact hK
     refine hoist [] [] (a1 := ?_) 3 rfl (by kernel_rfl) (.inl ⟨rfl, rfl⟩) rfl rfl rfl (fun x K hK => ?_) ?_
     rotate_left
     ·go_big_quiet_op
      exact hK
     refine hoist [] [] (a1 := ?_) 4 rfl (by kernel_rfl) (.inl ⟨rfl, rfl⟩) rfl rfl rfl (fun x K hK => ?_) ?_
     rotate_left
     ·go_big_quiet_op
      exact hK
     refine hoist [] [] (a1 := ?_) 5 rfl (by kernel_rfl) (.inl ⟨rfl, rfl⟩) rfl rfl rfl (fun x K hK => ?_) ?_
     rotate_left
     ·go_big_quiet_op
      exact hK
     refine hoist [] [] (a1 := ?_) 6 rfl (by kernel_rfl) (.inl ⟨rfl, rfl⟩) rfl rfl rfl (fun x K hK => ?_) ?_
     rotate_left
     ·go_big_quiet_op
      exact hK
     refine tail 7 rfl (by kernel_rfl) rfl (fun xr => ?_)
     simp only [List.drop_succ_cons, List.drop_zero]
     have hs : ((p : Int) + (q : Int)) % 4294967296 = (((p + q) % 4294967296 : Nat) : Int) := by omega
     rw [hs]
     clear hs
     generalize (p + q) % 4294967296 = z at *
     have K1 := Lib.hid (K0.out.still xr.ok)
     have c1 := iv_cell K1.out.v j (by rw [hal.out]; exact hj5)
     have f1 := hp_frz K1.out.v j
     have K2 := Lib.hid (K1.out.set j z)
     rw [hnx.out] at K2
     clear l0 l1 K0 K1
     go_wp2_with fail
     go_roundg (5 - (j + 1))
     case measure => omega
     case rel => exact ⟨j + 1, rfl, by omega, by go_num, K2⟩
    ·obtain rfl : j = 5 := by omega
     rw [ah_end V H hVl.out, ← hT.out] at K0
     have hTl : Hid (TH.length = 5) := by rw [Hid, hT.out]; rfl
     go_wp2_with (first | (refine wpList_load_row rfl 237 _ rfl _ rfl _ _ _ _ K0.out.v Tryz.underlying237 rfl (by rw [info5, ivA_size, hTl.out]) ?_) | (refine wpList_store_row rfl 237 _ _ rfl _ _ rfl rfl _ _ K0.out.r (by rw [info5, ivA_size, hTl.out]) (by rw [ivA_size, ivA_size, z5.out, hTl.out]) (ivA_one _ _) ?_))
     exact bodyPost_ret (results_cell_row (p := 4) rfl _ _ (w.heap.size + 1) _ _ _ _ rfl (hp_row K0.out.r _) Tryz.underlying237 rfl (by rw [info5, ivA_size, hTl.out])) rfl ⟨rfl, Below.setRow K0.out.b (by omega) _⟩
end Go.Proofs.YtikmhlbpefednaaGreat

namespace Go.Proofs.YtikmhlbpefednaaGreat
open Go.RowKit
theorem h0_w5 : W5 H0 := ⟨rfl, fun i => by
 rcases (show i = 0 ∨ i = 1 ∨ i = 2 ∨ i = 3 ∨ i = 4 ∨ 5 ≤ i by omega) with rfl | rfl | rfl | rfl | rfl | hi
 ·decide
 ·decide
 ·decide
 ·decide
 ·decide
 ·rw [List.getD_eq_getElem?_getD, List.getElem?_eq_none (by simpa [H0] using hi)]; decide⟩
theorem takeH_w5 (H bl : List Nat) : W5 (takeH H bl) := addH_w5 _ _
theorem hfrom_w5 (H l : List Nat) (hH : W5 H) : ∀ k, W5 (hfrom H l k)
 | 0 => hH
 | k + 1 => takeH_w5 _ _
def stA (H : List Nat) (vl : Value) (n : Int) : Array Value := #[.int .u32 (H.getD 0 0 : Nat), .int .u32 (H.getD 1 0 : Nat), .int .u32 (H.getD 2 0 : Nat), .int .u32 (H.getD 3 0 : Nat), .int .u32 (H.getD 4 0 : Nat), vl, .int .i64 n]
def St (w : World) (g : Nat) (H : List Nat) (vl : Value) (n : Int) : Prop := w.heap[g]? = some (.cells (stA H vl n) 240 (0, 0))
theorem St.left {w : World} {g : Nat} {H : List Nat} {vl : Value} {n : Int} (h : St w g H vl n) : w.cell? ⟨g, 5, none⟩ = some vl := hp_cell h 5
theorem St.size {w : World} {g : Nat} {H : List Nat} {vl : Value} {n : Int} (h : St w g H vl n) : w.cell? ⟨g, 6, none⟩ = some (.int .i64 n) := hp_cell h 6
theorem St.frz {w : World} {g : Nat} {H : List Nat} {vl : Value} {n : Int} (h : St w g H vl n) (i : Nat) : w.frozen? ⟨g, i, none⟩ = false := hp_frz h i
theorem St.set5 {w : World} {g : Nat} {H : List Nat} {vl : Value} {n : Int} (h : St w g H vl n) (u : Value) : St (w.setCell ⟨g, 5, none⟩ u) g H u n := hp_set h 5 u
theorem St.set6 {w : World} {g : Nat} {H : List Nat} {vl : Value} {n : Int} (h : St w g H vl n) (m : Int) : St (w.setCell ⟨g, 6, none⟩ (.int .i64 m)) g H vl m := hp_set h 6 _
theorem St.h {w : World} {g : Nat} {H : List Nat} {vl : Value} {n : Int} (h : St w g H vl n) (hH : H.length = 5) : w.rangeAt g 0 (ivA .u32 H).toList := by
 intro j v hj
 have hlt : j < 5 := by
  have := (List.getElem?_eq_some_iff.1 hj).1
  simpa [ivA, hH] using this
 rw [Array.getElem?_toList, ivA_get .u32 H j (by omega)] at hj
 cases hj
 rw [Nat.zero_add, hp_cell h j]
 rcases (show j = 0 ∨ j = 1 ∨ j = 2 ∨ j = 3 ∨ j = 4 by omega) with rfl | rfl | rfl | rfl | rfl <;> rfl
theorem St.there {w : World} {g : Nat} {H : List Nat} {vl : Value} {n : Int} (h : St w g H vl n) : w.there g 0 5 := fun j hj => by
 refine ⟨?_, hp_frz h _⟩
 rw [Nat.zero_add, hp_cell h j]
 rcases (show j = 0 ∨ j = 1 ∨ j = 2 ∨ j = 3 ∨ j = 4 by omega) with rfl | rfl | rfl | rfl | rfl <;> rfl
theorem St.seth {w : World} {g : Nat} {H : List Nat} {vl : Value} {n : Int} (h : St w g H vl n) (H' : List Nat) (hH : H'.length = 5) : St (w.setCells g 0 (ivA .u32 H').toList) g H' vl n := by
 match H', hH with
 | [a, b, c, d, e], _ => exact hp_set (hp_set (hp_set (hp_set (hp_set h 0 (.int .u32 (a : Nat))) 1 (.int .u32 (b : Nat))) 2 (.int .u32 (c : Nat))) 3 (.int .u32 (d : Nat))) 4 (.int .u32 (e : Nat))
theorem St.still {w w' : World} {g : Nat} {H : List Nat} {vl : Value} {n : Int} {S : List Nat} (h : St w g H vl n) (hs : Still S w w') (hS : g ∉ S) : St w' g H vl n := hp_st hs h hS
theorem still_setCells (w : World) (g o : Nat) (vs : List Value) : Still [g] w (w.setCells g o vs) := by
 obtain ⟨f1, f2, f3, f4⟩ := setCells_frame g vs o w
 exact ⟨f1, f2, f3, by rw [f4]; exact Nat.le_refl _, fun k _ hk => setCells_other g vs o w k (by simpa using hk)⟩
theorem still_setCell (w : World) (g o : Nat) (v : Value) : Still [g] w (w.setCell ⟨g, o, none⟩ v) := still_setCells w g o [v]
structure StV (w : World) (base g : Nat) (m : List Nat) (vl : Value) : Prop where
 b : base ≤ g
 by_ : ByL m
 st : St w g (hfrom H0 m (m.length / 64)) vl m.length
 lf : OB w base 5 vl (m.length % 64) (m.drop (64 * (m.length / 64)))
theorem StV.still {w w' : World} {base g : Nat} {m : List Nat} {vl : Value} {S : List Nat} (h : StV w base g m vl) (hs : Still S w w') (h1 : g ∉ S) (h2 : ∀ k, vl.ownBlock = some k → k ∉ S) : StV w' base g m vl :=
 ⟨h.b, h.by_, h.st.still hs h1, h.lf.still hs h2⟩
theorem StV.below {w w' : World} {base g : Nat} {m : List Nat} {vl : Value} {B : Nat} (h : StV w base g m vl) (hb : Below B w w') (hB : w.heap.size ≤ B) : StV w' base g m vl :=
 h.still (Still.of_below (S := []) (hb.mono hB)) (by simp) (by simp)
theorem StV.alloc {w : World} {base g : Nat} {m : List Nat} {vl : Value} (h : StV w base g m vl) (o : Obj) : StV (w.alloc o) base g m vl := h.below ((Below.refl _ _).alloc (Nat.le_refl _) o) (Nat.le_refl _)
theorem StV.up {w : World} {base base' g : Nat} {m : List Nat} {vl : Value} (h : StV w base g m vl) (hb : base' ≤ base) : StV w base' g m vl := ⟨Nat.le_trans hb h.b, h.by_, h.st, h.lf.up hb⟩
theorem StV.lt {w : World} {base g : Nat} {m : List Nat} {vl : Value} (h : StV w base g m vl) : g < w.heap.size := hp_lt h.st
def stS (g : Nat) (vl : Value) : List Nat := g :: vl.ownBlock.toList
theorem StV.ge {w : World} {base g : Nat} {m : List Nat} {vl : Value} (h : StV w base g m vl) : ∀ k ∈ stS g vl, base ≤ k := fun k hk => by
 rcases List.mem_cons.1 hk with rfl | hk
 ·exact h.b
 ·exact (h.lf.2.2.lt k (in_toList hk)).1
set_option maxRecDepth 100000 in
set_option maxHeartbeats 4000000 in
theorem first_any (w : World) : Calls Tryz.prog 143 #[] w fun e w' => e = .returned (.agg (ivA .u32 H0)) ∧ Below w.heap.size w w' := by
 go_enter Tryz.func143, Tryz.ntmps143
 have hp : Hid ((ivA .u32 H0).size = 5) := rfl
 have hz : Hid ((ivA .u32 (zeros 5)).size = 5) := rfl
 have e0 : (#[Value.int .u32 1732584193, .int .u32 4023233417, .int .u32 2562383102, .int .u32 271733878, .int .u32 3285377520] : Array Value) = ivA .u32 H0 := rfl
 have hB : Hid (Below w.heap.size w (w.alloc (.cells (ivA .u32 H0) 237))) := (Below.refl _ _).alloc (Nat.le_refl _) _
 have hN : Hid ((w.alloc (.cells (ivA .u32 H0) 237)).heap[w.heap.size]? = some (.cells (ivA .u32 H0) 237 (0, 0))) := hp_new _ _ _ rfl
 generalize hH : H0 = HH at *
 go_wp2_with (first | (refine wpList_alloc_of rfl 237 rfl _ zero5 ?_) | (refine wpList_store_new rfl 237 _ _ rfl _ (ivA .u32 HH) _ rfl (by first | rfl | exact e0) (by rw [info5, hp.out]) (by rw [hz.out, hp.out]) (ivA_one _ _) ?_))
 try simp only [Act.put, List.setIfInBounds_toArray, List.set_cons_succ, List.set_cons_zero]
 exact bodyPost_ret (results_cell_row (p := 0) rfl _ _ w.heap.size _ _ _ _ rfl hN.out Tryz.underlying237 rfl (by rw [info5, hp.out])) rfl ⟨rfl, hB.out⟩
set_option maxRecDepth 100000 in
set_option maxHeartbeats 4000000 in
theorem shanew_any (w : World) : Calls Tryz.prog 118 #[] w fun e w' => ∃ g, e = .returned (.pointer (some ⟨g, 0, none⟩)) ∧ StV w' w.heap.size g [] (.slice none 0 0) ∧ Below w.heap.size w w' := by
 go_enter Tryz.func118, Tryz.ntmps118
 go_wp2_with fail
 refine (first_any _).mono ?_
 rintro e w1 ⟨rfl, hb⟩
 replace hb := Lib.hid hb
 rw [show ivA .u32 H0 = #[.int .u32 1732584193, .int .u32 4023233417, .int .u32 2562383102, .int .u32 271733878, .int .u32 3285377520] from rfl]
 go_wp2_with fail
 go_ret
 refine ⟨_, rfl, ⟨hb.out.size, by simp [ByL], hp_new _ _ _ rfl, OB.nil _ _ _⟩, hb.out.alloc hb.out.size _⟩
end Go.Proofs.YtikmhlbpefednaaGreat

namespace Go.Proofs.YtikmhlbpefednaaGreat
open Go.RowKit
theorem hfrom_pre (H a b : List Nat) : ∀ q, 64 * q ≤ a.length → hfrom H (a ++ b) q = hfrom H a q
 | 0, _ => rfl
 | q + 1, h => by
  rw [hfrom, hfrom, hfrom_pre H a b q (by omega)]
  congr 1
  rw [List.drop_append, List.take_append, show 64 - (a.drop (64 * q)).length = 0 by simp; omega]
  simp
theorem quiet_load_mid {P : Program} {C : World → Prop} {a a1 : Act} {o : Oper} {K : Act → Prop} (T : TypeId) (x : Operand) (ho : o.op = .load T x) (b off : Nat) (hx : a.eval x = .pointer (some ⟨b, off, none⟩)) (cs : Array Value) (d : TypeDesc)
  (hu : P.underlying T = some d) (hd : d.isRow = true) (hi : (P.info? T).map (·.size) = some cs.toList.length) (h : ∀ w, C w → w.rangeAt b off cs.toList) (ha : a.put o.dst (.agg cs) = a1) (hK : K a1) : o.quiet P a C K := by
 refine ⟨.agg cs, fun w hw => ?_, by rw [ha]; exact hK⟩
 unfold Oper.quietAt execOp
 have := run_loadVar_mid w b off T cs.toList d (h w hw) hu hd hi
 simp only [Array.toArray_toList] at this
 simp only [ho, hx, Instr.loadAt, Instr.sureAddr, Sem.run_bind, Sem.run_pure, Result.andThen_ok, this, Oper.quietUpon, and_self]
theorem SB.apart {w w' : World} {v : Value} {n : Nat} {l : List Nat} (h : SB w v n l) {g : Nat} {c : Array Value} {t : TypeId} {fr : Nat × Nat} (hg : w.heap[g]? = some (.cells c t fr)) (hc : ∀ (i : Nat) (x : Int), c[i]? ≠ some (Value.int .u8 x)) (hs : Still [g] w w') : SB w' v n l := by
 obtain ⟨h1, h2, h3, h4, h5 | ⟨b, o, cap, rfl, hn, hcm, hlt, hcell⟩⟩ := h
 ·exact ⟨h1, h2, h3, h4, .inl h5⟩
 ·by_cases hbg : b = g
  ·subst hbg
   have hn0 : n = 0 := by
    rcases Nat.eq_zero_or_pos n with h | h
    ·exact h
    ·have := hcell 0 (by omega)
     rw [hp_cell hg, bvs_get _ _ (by omega)] at this
     exact absurd this (hc _ _)
   subst hn0
   exact ⟨h1, h2, h3, h4, .inl ⟨rfl, _, cap, rfl, by simp, hcm⟩⟩
  ·refine ⟨h1, h2, h3, h4, .inr ⟨b, o, cap, rfl, hn, hcm, Nat.lt_of_lt_of_le hlt hs.size, fun j hj => ?_⟩⟩
   rw [← hcell j hj]
   exact World.cell?_of_block (hs.block b hlt (by simpa using hbg))
theorem stA_nou8 (H : List Nat) (vl : Value) (n : Int) (hv : ∃ sa ln cp, vl = .slice sa ln cp) : ∀ (i : Nat) (x : Int), (stA H vl n)[i]? ≠ some (Value.int .u8 x) := by
 obtain ⟨sa, ln, cp, rfl⟩ := hv
 intro i x
 rcases (show i = 0 ∨ i = 1 ∨ i = 2 ∨ i = 3 ∨ i = 4 ∨ i = 5 ∨ i = 6 ∨ 7 ≤ i by omega) with rfl | rfl | rfl | rfl | rfl | rfl | rfl | hi
 ·simp [stA]
 ·simp [stA]
 ·simp [stA]
 ·simp [stA]
 ·simp [stA]
 ·simp [stA]
 ·simp [stA]
 ·rw [Array.getElem?_eq_none (by simpa [stA] using hi)]; simp
structure Wr (w0 wx : World) (base g : Nat) (mb : List Nat) (N : Nat) (vl0 vl : Value) (q : Nat) : Prop where
 st : St wx g (hfrom H0 mb q) vl N
 lf : OB wx base 5 vl (N - 64 * q) (mb.drop (64 * q))
 sl : Still (stS g vl0) w0 wx
 gr : ∀ k, vl.ownBlock = some k → vl0.ownBlock = some k ∨ w0.heap.size ≤ k
theorem Wr.still {w0 wx wy : World} {base g : Nat} {mb : List Nat} {N : Nat} {vl0 vl : Value} {q : Nat} (h : Wr w0 wx base g mb N vl0 vl q) (hs : Still [] wx wy) : Wr w0 wy base g mb N vl0 vl q :=
 ⟨h.st.still hs (by simp), h.lf.still hs (by simp), h.sl.trans (hs.weaken (by simp)), h.gr⟩
set_option maxRecDepth 100000 in
set_option maxHeartbeats 8000000 in
theorem write_any (base g : Nat) (m : List Nat) (vl v : Value) (len : Nat) (b : List Nat) (hsz : m.length + len ≤ 1000000000000) (w : World) (hs : StV w base g m vl) (hv : SB w v len b) (hbase : base ≤ w.heap.size) :
  Calls Tryz.prog 119 #[.pointer (some ⟨g, 0, none⟩), v] w fun e w' => e = .returned (.tuple #[]) ∧ ∃ vl', StV w' base g (m ++ b) vl' ∧ Still (stS g vl) w w' ∧ ∀ k, vl'.ownBlock = some k → vl.ownBlock = some k ∨ w.heap.size ≤ k := by
 obtain ⟨hb, hby, hst, hlf⟩ := hs
 have hml : Hid ((m ++ b).length = m.length + len) := by rw [Hid, List.length_append, hv.1]
 have hmby : Hid (ByL (m ++ b)) := hby.append hv.2.1
 have hq0 : Hid (m.drop (64 * (m.length / 64)) ++ b = (m ++ b).drop (64 * (m.length / 64))) := by
  rw [Hid, List.drop_append, show 64 * (m.length / 64) - m.length = 0 by omega, List.drop_zero]
 have hH0 : Hid (hfrom H0 (m ++ b) (m.length / 64) = hfrom H0 m (m.length / 64)) := hfrom_pre _ _ _ _ (by omega)
 have hdl : Hid ((m.drop (64 * (m.length / 64))).length = m.length % 64) := hlf.1
 have hbl := Lib.hid hv.1
 have hbb := Lib.hid hv.2.1
 generalize hmb : m ++ b = mb at *
 obtain ⟨sa, cap, rfl, hc, hm⟩ := hv.len
 unfold maxLen at hm
 generalize hmm : m.length = ml at *
 have hnv := Lib.hid (hlf.2.2.ne hst (by decide))
 have hg := Lib.hid (hp_lt hst)
 have c6 := hst.size
 have f6 := hst.frz 6
 generalize hHq : hfrom H0 m (ml / 64) = Hq at *
 replace hHq := Lib.hid hHq
 replace hst := Lib.hid hst
 replace hlf := Lib.hid hlf
 replace hv := Lib.hid hv
 replace hby := Lib.hid hby
 go_enter Tryz.func119, Tryz.ntmps119
 have c5 := hst.out.left
 have hlf6 : ∀ x, Hid (Ows (w.setCell ⟨g, 6, none⟩ x) base 5 1 vl (ml % 64) (bvs (m.drop (64 * (ml / 64))))) := fun x => hlf.out.2.2.set_other hnv.out x
 have hv6 : ∀ x, Hid (SB (w.setCell ⟨g, 6, none⟩ x) (.slice sa len cap) len b) := fun x => hv.out.apart hst.out (stA_nou8 _ _ _ (by obtain ⟨a1, a2, a3, _⟩ := hlf.out.len; exact ⟨a1, _, a2, a3⟩)) (still_setCell _ _ _ _)
 go_wp2_with (at_builtin; go_must (refine wpList_aps slU8 rfl 35 _ _ rfl base vl (ml % 64) (bvs (m.drop (64 * (ml / 64)))) rfl (hlf6 _).out _ rfl len (bvs b) (OB.sb_app Tryz.underlying35 (hv6 _).out) (by omega) (by simpa using hbase) ?_; intro v' w' h1 h2 h3; obtain ⟨sa1, cp1, rfl, hc1, hm1⟩ := h1.len; replace h1 := Lib.hid (OB.of_app h1 hdl.out hbl.out (hby.out.drop _) hbb.out); have hs6 := Lib.hid ((hst.out.set6 ((ml : Int) + (len : Int))).still (Still.of_row h2) (hlf.out.2.2.notin hst.out (by decide))); replace h2 := Lib.hid (Still.of_row h2); replace h3 := Lib.hid h3; have f5 := hs6.out.frz 5; have k5 := hs6.out.left))
 have W0 : Hid (Wr w (w'.setCell ⟨g, 5, none⟩ (.slice sa1 (ml % 64 + len) cp1)) base g mb (ml + len) vl (.slice sa1 (ml % 64 + len) cp1) (ml / 64)) := by
  refine ⟨?_, ?_, ?_, ?_⟩
  ·rw [hH0.out]
   have := hs6.out.set5 (.slice sa1 (ml % 64 + len) cp1)
   rw [show ((ml + len : Nat) : Int) = (ml : Int) + (len : Int) by push_cast; rfl]
   exact this
  ·have hz : ml + len - 64 * (ml / 64) = ml % 64 + len := by omega
   rw [hz, ← hq0.out]
   exact ⟨h1.out.1, h1.out.2.1, h1.out.2.2.set_other (h1.out.2.2.ne (show w'.heap[g]? = some (.cells (stA Hq vl ((ml : Int) + (len : Int))) 240 (0, 0)) from hs6.out) (by decide)) _⟩
  ·exact (show Still (stS g vl) _ _ from (still_setCell w g 6 _).weaken (by simp [stS])).trans ((show Still (stS g vl) _ _ from h2.out.weaken (by simp [stS])).trans ((still_setCell w' g 5 _).weaken (by simp [stS])))
  ·intro k hk
   rcases h3.out k hk with h | h
   ·exact .inl h
   ·exact .inr (by simpa using h)
 generalize w'.setCell ⟨g, 5, none⟩ (.slice sa1 (ml % 64 + len) cp1) = w6 at *
 clear h1 h2 h3 hs6 f5 k5 hlf6 hv6 c5 c6 f6 hst hlf hv hq0 hH0
 go_loopg [] ((ml + len) / 64 - ml / 64) (fun m wx => ∃ q vl', m = (ml + len) / 64 - q ∧ ml / 64 ≤ q ∧ 64 * q ≤ ml + len ∧ Hid (Wr w wx base g mb (ml + len) vl vl' q))
 case atStart => exact ⟨ml / 64, _, rfl, Nat.le_refl _, by omega, W0⟩
 case round =>
  clear W0
  obtain ⟨q, vl', rfl, hq1, hq2, W⟩ := hrel
  have c5 := W.out.st.left
  by_cases hge : 64 ≤ ml + len - 64 * q
  ·obtain ⟨g2, o2, cap2, rfl, hbg2, hlt2, hn2, hcm2, hcell2, hfz2⟩ := W.out.lf.form (by omega)
   unfold maxLen at hcm2
   have SP := Lib.hid (W.out.lf.sb.piece 0 64 cap2 (by omega) (by omega) (by omega) hcm2)
   rw [List.drop_zero] at SP
   have hnx : Hid (hfrom H0 mb (q + 1) = takeH (hfrom H0 mb q) ((mb.drop (64 * q)).take 64)) := rfl
   have hw5 := Lib.hid (hfrom_w5 H0 mb h0_w5 q)
   have tk := Lib.hid (take_any (hfrom H0 mb q) hw5.out)
   have hn5 : Hid ((takeH (hfrom H0 mb q) ((mb.drop (64 * q)).take 64)).length = 5) := (takeH_w5 _ _).1
   have hsc := Lib.hid W.out.st
   generalize hfrom H0 mb q = Hc at *
   clear hcell2 hfz2
   go_wp2_with fail
   have l5 : ∀ x : LaterS [] wr, x.now.cell? ⟨g, 5, none⟩ = some (.slice (some ⟨g2, o2, none⟩) (ml + len - 64 * q) cap2) := fun x => x.cell c5 (by simp)
   refine wp_region_gg [] [] [11] (by kernel_rfl) ?_
   refine hoist [] [] (a1 := ?_) 0 rfl (by kernel_rfl) (.inl ⟨rfl, rfl⟩) rfl rfl rfl (fun x K hK => ?_) ?_
   rotate_left
   ·go_big_quiet_op
    exact hK
   refine hoist [] [] (a1 := ?_) 1 rfl (by kernel_rfl) (.inl ⟨rfl, rfl⟩) rfl rfl rfl (fun x K hK => ?_) ?_
   rotate_left
   ·go_big_quiet_op
    exact hK
   refine hoist [] [] (a1 := ?_) 2 rfl (by kernel_rfl) (.inl ⟨rfl, rfl⟩) rfl rfl rfl (fun x K hK => ?_) ?_
   rotate_left
   ·go_big_quiet_op
    exact hK
   refine hoist [] [] (a1 := ?_) 3 rfl (by kernel_rfl) (.inl ⟨rfl, rfl⟩) rfl rfl rfl (fun x K hK => ?_) ?_
   rotate_left
   ·go_big_quiet_op
    exact hK
   refine hoist [] [] (a1 := ?_) 4 rfl (by kernel_rfl) (.inl ⟨rfl, rfl⟩) rfl rfl rfl (fun x K hK => ?_) ?_
   rotate_left
   ·refine quiet_load_mid 237 _ rfl g 0 rfl (ivA .u32 Hc) _ Tryz.underlying237 rfl (by rw [info5]; simp [ivA, hw5.out.1]) (fun w' hw => by subst hw; exact (hsc.out.still x.ok (by simp)).h hw5.out.1) (by simp only [Act.put, List.setIfInBounds_toArray, List.set_cons_succ, List.set_cons_zero]; rfl) ?_
    exact hK
   refine hoist [] [] (a1 := ?_) 5 rfl (by kernel_rfl) (.inl ⟨rfl, rfl⟩) rfl rfl rfl (fun x K hK => ?_) ?_
   rotate_left
   ·go_big_quiet_op
    exact hK
   refine hoist [] [] (a1 := ?_) 6 rfl (by kernel_rfl) (.inl ⟨rfl, rfl⟩) rfl rfl rfl (fun x K hK => ?_) ?_
   rotate_left
   ·go_big_quiet_op
    exact hK
   refine hoist [] [] (a1 := ?_) 7 rfl (by kernel_rfl) (.inl ⟨rfl, rfl⟩) rfl rfl rfl (fun x K hK => ?_) ?_
   rotate_left
   ·go_big_quiet_op
    exact hK
   refine hoist [] [] (a1 := ?_) 8 rfl (by kernel_rfl) (.inl ⟨rfl, rfl⟩) rfl rfl rfl (fun x K hK => ?_) ?_
   rotate_left
   ·go_big_quiet_op
    exact hK
   refine hoist [] [] (a1 := ?_) 9 rfl (by kernel_rfl) (.inl ⟨rfl, rfl⟩) rfl rfl rfl (fun x K hK => ?_) ?_
   rotate_left
   ·go_big_quiet_op
    exact hK
   refine effect 10 rfl (by kernel_rfl) (by kernel_rfl) rfl (fun x10 K hK => ?_)
   go_simp
   refine (tk.out _ 64 _ (Nat.le_refl _) _ (SP.out.still x10.ok (by simp))).mono ?_
   rintro e w7 ⟨rfl, hb7⟩
   refine hK _ _ (Still.of_below hb7) ?_
   clear hK K
   have S7 := Lib.hid (x10.ok.trans (Still.of_below hb7))
   refine tail 11 rfl (by kernel_rfl) rfl (fun xr => ?_)
   simp only [List.drop_succ_cons, List.drop_zero]
   have S8 := Lib.hid (S7.out.trans xr.ok)
   have W8 := Lib.hid (W.out.still S8.out)
   have hs8 := Lib.hid (hsc.out.still S8.out (by simp))
   clear l5 S7 S8 W hsc tk SP c5
   generalize xr.now = w8 at *
   clear xr
   generalize takeH Hc ((mb.drop (64 * q)).take 64) = TH at *
   have hs9 := Lib.hid (hs8.out.seth TH hn5.out)
   have c9 := hs9.out.left
   have f9 := hs9.out.frz 5
   have L9 := Lib.hid (still_setCells w8 g 0 (ivA .u32 TH).toList)
   have WN : ∀ o' c', (o' = o2 + 64 ∨ cap2 = 64 ∧ o' = o2) → c' = cap2 - 64 → Hid (Wr w ((w8.setCells g 0 (ivA .u32 TH).toList).setCell ⟨g, 5, none⟩ (.slice (some ⟨g2, o', none⟩) (ml + len - 64 * q - 64) c')) base g mb (ml + len) vl (.slice (some ⟨g2, o', none⟩) (ml + len - 64 * q - 64) c') (q + 1)) := by
    intro o' c' ho hc'
    subst hc'
    have hne := W8.out.lf.2.2.ne (show w8.heap[g]? = some (.cells (stA Hc _ _) 240 (0, 0)) from hs8.out) (by decide)
    have hd := (W8.out.lf.2.2.still L9.out (fun k hk => by simpa using hne k hk)).drop 64 (by omega) o' (by simpa using ho)
    refine ⟨?_, ⟨?_, by have := W8.out.lf.2.1.drop 64; rw [List.drop_drop] at this; exact this, ?_⟩, ?_, ?_⟩
    ·rw [hnx.out]; exact hs9.out.set5 _
    ·have := W8.out.lf.1
     rw [List.length_drop] at this ⊢
     omega
    ·have hs := hd.set_other (p := ⟨g, 5, none⟩) (fun k hk => by cases hk; exact hne _ rfl) (.slice (some ⟨g2, o', none⟩) (ml + len - 64 * q - 64) (cap2 - 64))
     rw [show ml + len - 64 * (q + 1) = ml + len - 64 * q - 64 by omega]
     have e : (bvs (mb.drop (64 * q))).drop (64 * 1) = bvs (mb.drop (64 * (q + 1))) := by
      unfold bvs
      rw [← List.map_drop, List.drop_drop, show 64 * q + 64 * 1 = 64 * (q + 1) by omega]
     rw [← e]
     exact hs
    ·exact W8.out.sl.trans ((show Still (stS g vl) _ _ from L9.out.weaken (by simp [stS])).trans ((still_setCell _ g 5 _).weaken (by simp [stS])))
    ·exact fun k hk => W8.out.gr k (by cases hk; rfl)
   have ht8 : Hid (w8.there g 0 (ivA .u32 TH).size) := by rw [Hid, ivA_size, hn5.out]; exact hs8.out.there
   go_wp2_with (refine wpList_store_mid rfl 237 _ _ rfl g 0 (ivA .u32 TH) rfl rfl ht8.out (by rw [info5, ivA_size, hn5.out]) (ivA_one _ _) ?_; generalize w8.setCells g 0 (ivA .u32 TH).toList = w9 at *)
   all_goals go_roundg ((ml + len) / 64 - (q + 1))
   case measure => omega
   case measure => omega
   case rel =>
    rename_i hcap
    exact ⟨q + 1, _, rfl, by omega, by omega, WN _ _ (.inr ⟨by omega, rfl⟩) (by omega)⟩
   case rel => exact ⟨q + 1, _, rfl, by omega, by omega, WN _ _ (.inl rfl) rfl⟩
  ·obtain ⟨sa2, cp2, rfl, hc2, hm2⟩ := W.out.lf.len
   go_wp2_with fail
   go_end0
   refine ⟨rfl, _, ⟨hb, hmby.out, ?_, ?_⟩, W.out.sl, W.out.gr⟩
   ·have := W.out.st
    rw [hml.out, show (ml + len) / 64 = q by omega]
    exact this
   ·have := W.out.lf
    rw [hml.out, show (ml + len) / 64 = q by omega, show (ml + len) % 64 = ml + len - 64 * q by omega]
    exact this
end Go.Proofs.YtikmhlbpefednaaGreat

namespace Go.Proofs.YtikmhlbpefednaaGreat
open Go.RowKit
theorem wpList_load_midA {P : Program} {ops : Array Oper} {rest : List Oper} {op : Oper} {a : Act} {w : World} {Q : Exit → Act → World → Prop} (hgd : op.guard = none) (ty : TypeId) (x : Operand) (ho : op.op = .load ty x)
  (b o : Nat) (hx : a.eval x = .pointer (some ⟨b, o, none⟩)) (cs : Array Value) (d : TypeDesc) (hc : w.rangeAt b o cs.toList)
  (hu : P.underlying ty = some d) (hd : d.isRow = true) (hi : (P.info? ty).map (·.size) = some cs.size)
  (h : wpList P ops Q rest (a.put op.dst (.agg cs)) w) : wpList P ops Q (op :: rest) a w :=
 wpList_load_mid hgd ty x ho b o hx cs.toList d hc hu hd (by simpa using hi) (by simpa using h)
theorem run_arrayAt {P : Program} (T : TypeId) (n : Nat) (e : TypeId) (hT : P.underlying T = some (.array n e)) (a : Option Addr) (len cap : Nat) (h : n ≤ len) (w : World) : (Instr.arrayAt T (.slice a len cap)).run P w = .ok (.pointer a) w := by
 unfold Instr.arrayAt
 simp only [Sem.run_bind, run_underlying hT, Result.andThen_ok]
 rw [if_neg (by omega)]
 rfl
theorem SB.drop {w : World} {g o n cap : Nat} {l : List Nat} (h : SB w (.slice (some ⟨g, o, none⟩) n cap) n l) (d : Nat) (hd : d ≤ n) (o' c' : Nat) (ho : o' = o + d ∨ n = d) (hc : n - d ≤ c') (hm : c' ≤ maxLen) : SB w (.slice (some ⟨g, o', none⟩) (n - d) c') (n - d) (l.drop d) := by
 rcases Nat.lt_or_ge d n with hlt | hge
 ·have := h.piece d (n - d) c' (by omega) (by omega) hc hm
  rw [List.take_of_length_le (by rw [List.length_drop, h.1]; omega)] at this
  rcases ho with rfl | ho
  ·exact this
  ·omega
 ·obtain rfl : n = d := by omega
  have h0 : n - n = 0 := by omega
  rw [h0]
  rw [List.drop_of_length_le (by rw [h.1]; omega)]
  exact ⟨rfl, by simp [ByL], rfl, by decide, .inl ⟨rfl, _, c', rfl, by simp, hm⟩⟩
theorem SB.full {w : World} {sa : Option Addr} {n cap : Nat} {l : List Nat} (h : SB w (.slice sa n cap) n l) : SB w (.slice sa n n) n l := by
 obtain ⟨h1, h2, h3, h4, h5⟩ := h
 refine ⟨h1, h2, h3, h4, ?_⟩
 rcases h5 with ⟨rfl, sa', cp, he, h6, h7⟩ | ⟨b, o, cp, he, h6, h7, h8, h9⟩
 ·cases he; exact .inl ⟨rfl, sa, 0, rfl, fun _ => rfl, by decide⟩
 ·cases he; exact .inr ⟨b, o, n, rfl, Nat.le_refl _, h4, h8, h9⟩
def dg (H : List Nat) : Nat → List Nat
 | 0 => []
 | i + 1 => dg H i ++ putB 4 (H.getD i 0)
theorem dg_end (H : List Nat) : dg H 5 = digest H := by simp [dg, digest]
theorem zero20 : ∀ w, (zeroValue 47).run Tryz.prog w = .ok (.agg (ivA .u8 (zeros 20))) w := fun w => by kernel_rfl
theorem info20 : (Tryz.prog.info? 47).map (·.size) = some 20 := by kernel_rfl
set_option maxRecDepth 100000 in
set_option maxHeartbeats 8000000 in
theorem done_any (base g : Nat) (m : List Nat) (vl : Value) (hsz : m.length ≤ 1000000000000) (w : World) (hs : StV w base g m vl) :
  Calls Tryz.prog 120 #[.pointer (some ⟨g, 0, none⟩)] w fun e w' => e = .returned (.agg (ivA .u8 (sumN m))) ∧ Below w.heap.size w w' := by
 obtain ⟨hb, hby, hst, hlf⟩ := hs
 have hE : Hid (endN m = m.drop (64 * (m.length / 64)) ++ [128] ++ List.replicate (padZ m.length) 0 ++ putB 8 (8 * m.length)) := by
  unfold Hid endN; rw [Nat.mod_eq_of_lt (by omega)]
 have hEl := Lib.hid (endN_len m)
 have hS := Lib.hid (sum_end m)
 have hpz := Lib.hid (padZ_spec m.length)
 have hpl := Lib.hid (padZ_least m.length)
 have hw5 := Lib.hid (hfrom_w5 H0 m h0_w5 (m.length / 64))
 have hLl := Lib.hid hlf.1
 have hLb := Lib.hid hlf.2.1
 generalize hfrom H0 m (m.length / 64) = Hm at *
 generalize m.drop (64 * (m.length / 64)) = L at *
 generalize endN m = E at *
 generalize sumN m = D at *
 generalize m.length = ml at *
 generalize padZ ml = pz at *
 clear hby
 have hg := Lib.hid (hp_lt hst)
 obtain ⟨sa, cap, rfl, hc, hm⟩ := hlf.len
 have SL := Lib.hid hlf.sb
 unfold maxLen at hm
 have c5 := hst.left
 replace hst := Lib.hid hst
 clear hlf
 go_enter Tryz.func120, Tryz.ntmps120
 go_wp2_with (refine wpList_alloc_of rfl 47 rfl _ zero20 ?_)
 have hst0 := Lib.hid (hp_keep hst.out (.cells (ivA .u8 (zeros 20)) 47))
 have SL0 := Lib.hid (SL.out.alloc (.cells (ivA .u8 (zeros 20)) 47))
 have R0 := Lib.hid (hp_new w (.cells (ivA .u8 (zeros 20)) 47) _ rfl)
 have B0 := Lib.hid ((Below.refl w.heap.size w).alloc (Nat.le_refl _) (.cells (ivA .u8 (zeros 20)) 47))
 have Z0 : Hid ((w.alloc (.cells (ivA .u8 (zeros 20)) 47)).heap.size = w.heap.size + 1) := by simp [Hid]
 generalize w.alloc (.cells (ivA .u8 (zeros 20)) 47) = w0 at *
 have l5 : ∀ x : LaterS [] w0, x.now.cell? ⟨g, 5, none⟩ = some (.slice sa (ml % 64) cap) := fun x => x.cell (hp_cell hst0.out 5) (by simp)
 clear c5 SL
 refine wp_region_gg [] [] [] (by kernel_rfl) ?_
 refine hoist [] [] (a1 := ?_) 0 rfl (by kernel_rfl) (.inl ⟨rfl, rfl⟩) rfl rfl rfl (fun x K hK => ?_) ?_
 rotate_left
 ·go_big_quiet_op
  exact hK
 refine hoist [] [] (a1 := ?_) 1 rfl (by kernel_rfl) (.inl ⟨rfl, rfl⟩) rfl rfl rfl (fun x K hK => ?_) ?_
 rotate_left
 ·go_big_quiet_op
  exact hK
 refine hoist [] [] (a1 := ?_) 2 rfl (by kernel_rfl) (.inl ⟨rfl, rfl⟩) rfl rfl rfl (fun x K hK => ?_) ?_
 rotate_left
 ·go_big_quiet_op
  exact hK
 refine hoist [] [] (a1 := ?_) 3 rfl (by kernel_rfl) (.inl ⟨rfl, rfl⟩) rfl rfl rfl (fun x K hK => ?_) ?_
 rotate_left
 ·go_big_quiet_op
  exact hK
 refine hoist [] [] (a1 := ?_) 4 rfl (by kernel_rfl) (.inl ⟨rfl, rfl⟩) rfl rfl rfl (fun x K hK => ?_) ?_
 rotate_left
 ·go_big_quiet_op
  exact hK
 refine hoist [] [] (a1 := ?_) 5 rfl (by kernel_rfl) (.inl ⟨rfl, rfl⟩) rfl rfl rfl (fun x K hK => ?_) ?_
 rotate_left
 ·go_big_quiet_op
  exact hK
 refine hoist [] [] (a1 := ?_) 6 rfl (by kernel_rfl) (.inl ⟨rfl, rfl⟩) rfl rfl rfl (fun x K hK => ?_) ?_
 rotate_left
 ·go_big_quiet_op
  exact hK
 refine hoist [] [] (a1 := ?_) 7 rfl (by kernel_rfl) (.inl ⟨rfl, rfl⟩) rfl rfl rfl (fun x K hK => ?_) ?_
 rotate_left
 ·go_big_quiet_op
  exact hK
 refine hoist [] [] (a1 := ?_) 8 rfl (by kernel_rfl) (.inl ⟨rfl, rfl⟩) rfl rfl rfl (fun x K hK => ?_) ?_
 rotate_left
 ·go_big_quiet_op
  exact hK
 refine hoist [] [] (a1 := ?_) 9 rfl (by kernel_rfl) (.inl ⟨rfl, rfl⟩) rfl rfl rfl (fun x K hK => ?_) ?_
 rotate_left
 ·go_big_quiet_op
  exact hK
 refine hoist [] [] (a1 := ?_) 10 rfl (by kernel_rfl) (.inl ⟨rfl, rfl⟩) rfl rfl rfl (fun x K hK => ?_) ?_
 rotate_left
 ·go_big_quiet_op
  exact hK
 refine hoist [] [] (a1 := ?_) 11 rfl (by kernel_rfl) (.inl ⟨rfl, rfl⟩) rfl rfl rfl (fun x K hK => ?_) ?_
 rotate_left
 ·go_big_quiet_op
  exact hK
 refine hoist [] [] (a1 := ?_) 12 rfl (by kernel_rfl) (.inl ⟨rfl, rfl⟩) rfl rfl rfl (fun x K hK => ?_) ?_
 rotate_left
 ·go_big_quiet_op
  exact hK
 refine hoist [] [] (a1 := ?_) 13 rfl (by kernel_rfl) (.inl ⟨rfl, rfl⟩) rfl rfl rfl (fun x K hK => ?_) ?_
 rotate_left
 ·go_big_quiet_op
  exact hK
 refine hoist [] [] (a1 := ?_) 14 rfl (by kernel_rfl) (.inl ⟨rfl, rfl⟩) rfl rfl rfl (fun x K hK => ?_) ?_
 rotate_left
 ·go_big_quiet_op
  exact hK
 refine effect 15 rfl (by kernel_rfl) (by kernel_rfl) rfl (fun x15 K hK => ?_)
 go_simp
 refine hK _ _ (Still.of_below ((Below.refl _ _).alloc (Nat.le_refl _) _)) ?_
 clear hK K
 have N1 := Lib.hid (SB.new1 x15.now 5 128 (by decide))
 have S1 := Lib.hid (x15.ok.trans (Still.of_below ((Below.refl _ x15.now).alloc (Nat.le_refl _) (.cells #[.int .u8 128] 5))))
 generalize x15.now.alloc (.cells #[.int .u8 128] 5) = wa at *
 generalize x15.now.heap.size = ba at *
 refine effect 16 rfl (by kernel_rfl) (by kernel_rfl) rfl (fun x16 K hK => ?_)
 skip
 have S2 := Lib.hid (S1.out.trans x16.ok)
 have hz := S2.out.size
 have SLx := (SL0.out.still S2.out (by simp)).full
 refine wp_apf slU8 35 _ _ rfl w.heap.size sa (ml % 64) (bvs L) rfl SLx.2.2 _ rfl 1 (bvs [128]) (OB.sb_app Tryz.underlying35 (N1.out.still x16.ok (by simp))) (by omega) (by omega) (by rw [Z0.out] at hz; omega) fun v' w' h1 h2 => hK _ _ (Still.of_grown_none h2) ?_
 simp only [Act.put, List.setIfInBounds_toArray, List.set_cons_succ, List.set_cons_zero]
 have S3 := Lib.hid (S2.out.trans (Still.of_grown_none h2))
 replace h1 := Lib.hid (OB.of_app h1 hLl.out rfl hLb.out (by intro z hz; simp at hz; omega))
 clear SLx h2 hz S2 hK K
 obtain ⟨sa1, cp1, rfl, hcp1, hm1⟩ := h1.out.len
 refine hoist [] [] (a1 := ?_) 17 rfl (by kernel_rfl) (.inl ⟨rfl, rfl⟩) rfl rfl rfl (fun x K hK => ?_) ?_
 rotate_left
 ·go_big_quiet_op
  exact hK
 refine done (by kernel_rfl) (fun xr => ?_)
 have S4 := Lib.hid (S3.out.trans xr.ok)
 have O4 := Lib.hid (h1.out.still xr.ok (by simp))
 have B4 := Lib.hid (B0.out.trans (S4.out.below (B := w.heap.size) (by rw [Z0.out]; omega) (by simp)))
 have R4 := Lib.hid (hp_st S4.out R0.out (by simp))
 have hstw := Lib.hid (show w.heap[g]? = _ from hst.out)
 clear h1 S4 S3 S1 N1 SL0 hst0 R0 B0 Z0 l5 hm1
 generalize xr.now = w4 at *
 clear xr
 -- the zeros
 go_wp2_with fail
 go_loopg [3] pz (fun m e wx => ∃ k sk ck, m = pz - k ∧ k ≤ pz ∧ e = .slice sk (ml % 64 + 1 + k) ck ∧ ml % 64 + 1 + k ≤ ck ∧ Hid (Below w.heap.size w wx) ∧ Hid (wx.heap[w.heap.size]? = some (.cells (ivA .u8 (zeros 20)) 47 (0, 0))) ∧ Hid (OB wx w.heap.size 5 e (ml % 64 + 1 + k) (L ++ [128] ++ List.replicate k 0)))
 case atStart => exact ⟨0, _, _, by omega, by omega, rfl, by simpa using hcp1, B4, R4, by simpa using O4⟩
 case round =>
  clear B4 O4 R4
  obtain ⟨k, sk, ck, rfl, hk, rfl, hck, B5, R5, O5⟩ := hrel
  by_cases hkp : k < pz
  ·have hne := hpl.out k hkp
   have hd : (((ml : Int) % 64 + 1 + (k : Int)) % 64 != 56) = true := by simp; omega
   have hpz2 := hpz.out.2
   have hsn : Hid (L ++ [128] ++ List.replicate k 0 ++ [0] = L ++ [128] ++ List.replicate (k + 1) 0) := by rw [Hid, List.append_assoc, ← List.replicate_succ']
   have hszw := B5.out.size
   have R6 := Lib.hid (hp_keep R5.out (.cells #[.int .u8 0] 5))
   go_wp2_with (at_builtin; go_must (refine wpList_aps slU8 rfl 35 _ _ rfl w.heap.size _ (ml % 64 + 1 + k) (bvs (L ++ [128] ++ List.replicate k 0)) rfl (O5.out.alloc _).2.2 _ rfl 1 (bvs [0]) (OB.sb_app Tryz.underlying35 (SB.new1 wr _ 0 (by decide))) (by omega) (by simp; omega) ?_; intro v' w' h1 h2 h3; clear h3; have L2 := Lib.hid ((B5.out.alloc B5.out.size (.cells #[.int .u8 0] 5)).trans (Ows.grown (by simp; omega) (Nat.le_refl _) (O5.out.alloc _).2.2 h2)); replace R6 := Lib.hid (hp_st (Still.of_row h2) R6.out ((O5.out.alloc _).2.2.notin R6.out (by decide))); replace h1 := Lib.hid (OB.of_app h1 O5.out.1 rfl O5.out.2.1 (by intro z hz; simp at hz; omega)); clear h2; obtain ⟨sn, cn, rfl, hcn, hmn⟩ := h1.out.len))
   go_roundg (pz - (k + 1))
   case measure => omega
   case rel => exact ⟨k + 1, _, _, rfl, by omega, rfl, by omega, L2, R6, by rw [← hsn.out]; exact h1⟩
  ·obtain rfl : k = pz := by omega
   clear hk hkp
   have hd : (((ml : Int) % 64 + 1 + (k : Int)) % 64 != 56) = false := by have := hpz.out.1; simp; omega
   have hst5 : Hid (St wr g Hm (.slice sa (ml % 64) cap) ml) := hp_bel B5.out hst.out hg.out
   have c6 := hst5.out.size
   have hEn : Hid (E.length = ml % 64 + 1 + k + 8) := by
    unfold Hid; rw [hE.out]; simp [hLl.out, putB_len]; omega
   have hpz2 := hpz.out.2
   go_wp2_with fail
   have e8 : (8 * (ml : Int)) = ((8 * ml : Nat) : Int) := by push_cast; rfl
   rw [e8]
   refine (put_ok _ (ml % 64 + 1 + k) (L ++ [128] ++ List.replicate k 0) 8 (8 * ml) 8 (by omega) (by omega) rfl (by omega) (by omega) _ O5.out.sb).mono ?_
   rintro e w7 ⟨v7, rfl, O7, B7⟩
   rw [← hE.out, ← hEn.out] at O7
   have L7 := Lib.hid (B5.out.trans (B7.mono B5.out.size))
   have R7 := Lib.hid (hp_bel B7 R5.out (hp_lt R5.out))
   have hst7 := Lib.hid (hst5.out.still (Still.of_below (S := []) B7) (by simp))
   replace O7 := Lib.hid O7.sb
   have hE64 := Lib.hid (Nat.div_mul_cancel (Nat.dvd_of_mod_eq_zero hEl.out))
   clear c6 B7 B5 R5 O5 hst5 hd hck hpl
   obtain ⟨s7, c7, rfl, hc7, hm7⟩ := O7.out.len
   unfold maxLen at hm7
   have hEN : Hid (E.length ≤ 200) := by rw [hEn.out, Hid]; omega
   clear hE hLb hLl hEn
   generalize hN : E.length = N at *
   replace hN := Lib.hid hN
   have N8 := Lib.hid (hp_new w7 (.cells (ivA .u32 Hm) 237) _ rfl)
   have O8 := Lib.hid (O7.out.alloc (.cells (ivA .u32 Hm) 237))
   have R8 := Lib.hid (hp_keep R7.out (.cells (ivA .u32 Hm) 237))
   have L8 := Lib.hid (L7.out.alloc L7.out.size (.cells (ivA .u32 Hm) 237))
   have hb8 : w.heap.size ≤ w7.heap.size := L7.out.size
   have hbR : w.heap.size < w7.heap.size := hp_lt R7.out
   dsimp only
   go_wp2_with (first | (refine wpList_load_midA rfl 237 _ rfl g 0 rfl (ivA .u32 Hm) _ (hst7.out.h hw5.out.1) Tryz.underlying237 rfl (by rw [info5, ivA_size, hw5.out.1]) ?_) | (refine wpList_alloc_of rfl 237 rfl _ zero5 ?_) | (refine wpList_store_new rfl 237 _ _ rfl _ (ivA .u32 Hm) _ rfl rfl (by rw [info5, ivA_size, hw5.out.1]) (by rw [ivA_size, ivA_size, hw5.out.1, zeros_len]) (ivA_one _ _) ?_))
   clear O7 R7 L7 hst7
   generalize w7.alloc (.cells (ivA .u32 Hm) 237) = w8 at *
   generalize w7.heap.size = b8 at *
   try simp only [Act.put, List.setIfInBounds_toArray, List.set_cons_succ, List.set_cons_zero]
   clear hst hstw hsz hpz hpz2 hEl e8 hc hm hcp1 hb hg
   go_loopg [3] (N / 64) (fun m e wx => ∃ j s c, m = N / 64 - j ∧ j ≤ N / 64 ∧ e = .slice s (N - 64 * j) c ∧ N - 64 * j ≤ c ∧ c ≤ 2 ^ 63 - 1 ∧ Hid (SB wx e (N - 64 * j) (E.drop (64 * j))) ∧ Hid (Below w.heap.size w wx) ∧ Hid (wx.heap[w.heap.size]? = some (.cells (ivA .u8 (zeros 20)) 47 (0, 0))) ∧ Hid (wx.heap[b8]? = some (.cells (ivA .u32 (hfrom Hm E j)) 237 (0, 0))))
   case atStart => exact ⟨0, _, _, by omega, by omega, rfl, hc7, hm7, by simpa using O8, L8, R8, N8⟩
   case round =>
    clear O8 L8 R8 N8 hc7 hm7
    obtain ⟨j, s9, c9, rfl, hj, rfl, hc9, hm9, O9, L9, R9, N9⟩ := hrel
    have hNN := hE64.out
    have hN2 := hEN.out
    have hwj := Lib.hid (hfrom_w5 Hm E hw5.out j)
    by_cases hj2 : j < N / 64
    ·obtain ⟨g2, o2, cap2, he, hn2, hcm2, hlt2, _⟩ := O9.out.form (by omega)
     cases he
     unfold maxLen at hcm2
     have SP := Lib.hid (O9.out.piece 0 64 c9 (by omega) (by omega) (by omega) hm9)
     rw [List.drop_zero] at SP
     have hnx : Hid (hfrom Hm E (j + 1) = takeH (hfrom Hm E j) ((E.drop (64 * j)).take 64)) := rfl
     have tk := Lib.hid (take_any (hfrom Hm E j) hwj.out)
     have hn5 : Hid ((takeH (hfrom Hm E j) ((E.drop (64 * j)).take 64)).length = 5) := (takeH_w5 _ _).1
     have hlj := Lib.hid hwj.out.1
     have hb9 := hp_lt N9.out
     clear hwj
     generalize hfrom Hm E j = Hj at *
     go_wp2_with fail
     refine wp_region_gg [] [] [4] (by kernel_rfl) ?_
     refine hoist [] [] (a1 := ?_) 0 rfl (by kernel_rfl) (.inl ⟨rfl, rfl⟩) rfl rfl rfl (fun x K hK => ?_) ?_
     rotate_left
     ·refine quiet_load_row 237 _ rfl b8 rfl 237 (ivA .u32 Hj) (0, 0) _ Tryz.underlying237 rfl (by rw [info5, ivA_size, hlj.out]) (fun w' hw => by subst hw; exact x.heap N9.out (by simp)) (by simp only [Act.put, List.setIfInBounds_toArray, List.set_cons_succ, List.set_cons_zero]; rfl) ?_
      exact hK
     refine hoist [] [] (a1 := ?_) 1 rfl (by kernel_rfl) (.inl ⟨rfl, rfl⟩) rfl rfl rfl (fun x K hK => ?_) ?_
     rotate_left
     ·go_big_quiet_op
      exact hK
     refine hoist [] [] (a1 := ?_) 2 rfl (by kernel_rfl) (.inl ⟨rfl, rfl⟩) rfl rfl rfl (fun x K hK => ?_) ?_
     rotate_left
     ·go_big_quiet_op
      exact hK
     refine effect 3 rfl (by kernel_rfl) (by kernel_rfl) rfl (fun x3 K hK => ?_)
     go_simp
     refine (tk.out _ 64 _ (Nat.le_refl _) _ (SP.out.still x3.ok (by simp))).mono ?_
     rintro e w10 ⟨rfl, hb10⟩
     refine hK _ _ (Still.of_below hb10) ?_
     clear hK K
     have S10 := Lib.hid (x3.ok.trans (Still.of_below hb10))
     refine tail 4 rfl (by kernel_rfl) rfl (fun xr => ?_)
     simp only [List.drop_succ_cons, List.drop_zero]
     have SA := Lib.hid (S10.out.trans xr.ok)
     have NA := Lib.hid (hp_st SA.out N9.out (by simp))
     have RA := Lib.hid (hp_st SA.out R9.out (by simp))
     have OA := Lib.hid (O9.out.still SA.out (by simp))
     have LA := Lib.hid (L9.out.trans (SA.out.below L9.out.size (by simp)))
     clear SA S10 N9 R9 O9 L9 tk SP
     generalize xr.now = wA at *
     generalize takeH Hj ((E.drop (64 * j)).take 64) = TH at *
     have NB := Lib.hid (hp_row NA.out (ivA .u32 TH))
     have RB := Lib.hid ((hp_rowo (g := b8) (ivA .u32 TH) (show w.heap.size ≠ b8 by omega)).trans RA.out)
     have LB := Lib.hid (Below.setRow LA.out (by omega) (ivA .u32 TH))
     have OB' : Hid (SB (wA.setRow b8 (ivA .u32 TH)) (.slice (some ⟨g2, o2, none⟩) (N - 64 * j) c9) (N - 64 * j) (E.drop (64 * j))) := OA.out.apart NA.out (fun i x hx => by
      unfold ivA at hx; simp at hx) (Still.mk rfl rfl rfl (by simp) (fun k hk hs => hp_rowo _ (by simpa using hs)))
     go_wp2_with (refine wpList_store_row rfl 237 _ _ rfl _ (ivA .u32 TH) rfl rfl _ _ NA.out (by rw [info5, ivA_size, hn5.out]) (by rw [ivA_size, ivA_size, hlj.out, hn5.out]) (ivA_one _ _) ?_; generalize wA.setRow b8 (ivA .u32 TH) = wB at *)
     all_goals go_roundg (N / 64 - (j + 1))
     case measure => omega
     case measure => omega
     case rel => exact ⟨j + 1, _, _, rfl, by omega, by rw [show N - 64 * (j + 1) = N - 64 * j - 64 by omega], by omega, by omega, by
      have := OB'.out.drop 64 (by omega) o2 0 (by omega) (by omega) (by decide)
      rw [List.drop_drop] at this
      rw [show N - 64 * (j + 1) = N - 64 * j - 64 by omega]
      exact this, LB, RB, by rw [hnx.out]; exact NB⟩
     case rel => exact ⟨j + 1, _, _, rfl, by omega, by rw [show N - 64 * (j + 1) = N - 64 * j - 64 by omega], by omega, by omega, by
      have := OB'.out.drop 64 (by omega) (o2 + 64) (c9 - 64) (.inl rfl) (by omega) (by unfold maxLen; omega)
      rw [List.drop_drop] at this
      rw [show N - 64 * (j + 1) = N - 64 * j - 64 by omega]
      exact this, LB, RB, by rw [hnx.out]; exact NB⟩
    ·obtain rfl : j = N / 64 := by omega
     have hDd : Hid (D = dg (hfrom Hm E (N / 64)) 5) := by rw [Hid, dg_end]; exact hS.out
     have hlj := Lib.hid hwj.out.1
     have hHb := Lib.hid hwj.out.2
     clear hwj hS hw5
     generalize hfrom Hm E (N / 64) = HF at *
     have O0 := Lib.hid (OB.nil wr w.heap.size 5).sb
     have hz9 : N - 64 * (N / 64) = 0 := by omega
     rw [hz9] at O9 hc9
     go_wp2_with (refine wpList_load_row rfl 237 _ rfl _ rfl _ _ _ _ N9.out Tryz.underlying237 rfl (by rw [info5, ivA_size, hlj.out]) ?_)
     clear N9 O9 hc9 hm9 hz9 hN hE64 hEN hNN hN2 hj hj2
     go_loopg [5, 58] 5 (fun m o x wx => ∃ i s c, m = 5 - i ∧ i ≤ 5 ∧ x = .int .i64 (i : Nat) ∧ o = .slice s (4 * i) c ∧ Hid (SB wx o (4 * i) (dg HF i)) ∧ Hid (Below w.heap.size w wx) ∧ Hid (wx.heap[w.heap.size]? = some (.cells (ivA .u8 (zeros 20)) 47 (0, 0))))
     case atStart => exact ⟨0, none, 0, by omega, by omega, rfl, rfl, O0, L9, R9⟩
     case round =>
      clear O0 L9 R9
      obtain ⟨i, so, co, rfl, hi, rfl, rfl, O1, L1, R1⟩ := hrel
      by_cases hi5 : i < 5
      ·have hidx : ∀ wy, (Instr.index 237 (.agg (ivA .u32 HF)) (.int .i64 (i : Nat))).run Tryz.prog wy = .ok (.int .u32 (HF.getD i 0 : Nat)) wy := fun wy => run_index_iv _ 33 5 .u32 HF Tryz.underlying237 Tryz.underlying33 (by kernel_rfl) hlj.out i hi5 wy
       have hx := hHb.out i
       have hnx : Hid (dg HF i ++ putB 4 (HF.getD i 0) = dg HF (i + 1)) := rfl
       generalize HF.getD i 0 = x at *
       go_wp2_with fail
       refine (put_ok _ (4 * i) (dg HF i) 4 x 4 (by omega) (by omega) rfl (by omega) (by omega) _ O1.out).mono ?_
       rintro e w7 ⟨v7, rfl, O7, B7⟩
       rw [hnx.out] at O7
       have L7 := Lib.hid (L1.out.trans (B7.mono L1.out.size))
       have R7 := Lib.hid (hp_bel B7 R1.out (hp_lt R1.out))
       replace O7 := Lib.hid O7.sb
       obtain ⟨s7, c7, rfl, hc7, hm7⟩ := O7.out.len
       clear B7 L1 R1 O1
       dsimp only
       go_wp2_with fail
       go_roundg (5 - (i + 1))
       case measure => omega
       case rel => exact ⟨i + 1, _, _, rfl, by omega, by go_num, rfl, O7, L7, R7⟩
      ·obtain rfl : i = 5 := by omega
       rw [← hDd.out] at O1
       obtain ⟨g2, o2, cap2, he, hn2, hcm2, hlt2, hcell⟩ := O1.out.form (by omega)
       cases he
       have hDl := Lib.hid O1.out.1
       have hr : Hid (wr.rangeAt g2 o2 (ivA .u8 D).toList) := by
        intro j v hj
        have hlt : j < 20 := by
         have := (List.getElem?_eq_some_iff.1 hj).1
         simpa [ivA, hDl.out] using this
        rw [Array.getElem?_toList, ivA_get .u8 D j (by rw [hDl.out]; exact hlt)] at hj
        cases hj
        exact hcell j hlt
       clear hcell
       have hat := fun wy => run_arrayAt (P := Tryz.prog) 47 20 5 Tryz.underlying47 (some ⟨g2, o2, none⟩) (4 * 5) co (by omega) wy
       go_wp2_with (first | (refine wpList_load_midA rfl 47 _ rfl g2 o2 rfl (ivA .u8 D) _ hr.out Tryz.underlying47 rfl (by rw [info20, ivA_size, hDl.out]) ?_) | (refine wpList_store_row rfl 47 _ _ rfl _ (ivA .u8 D) rfl rfl _ _ R1.out (by rw [info20, ivA_size, hDl.out]) (by rw [ivA_size, ivA_size, hDl.out, zeros_len]) (ivA_one _ _) ?_))
       exact bodyPost_ret (results_cell_row (p := 2) rfl _ _ w.heap.size _ _ _ _ rfl (hp_row R1.out _) Tryz.underlying47 rfl (by rw [info20, ivA_size, hDl.out])) rfl ⟨rfl, Below.setRow L1.out (by omega) _⟩
end Go.Proofs.YtikmhlbpefednaaGreat

namespace Go.Proofs.YtikmhlbpefednaaGreat
open Go.RowKit
def SM (w : World) (v : Value) (n : Nat) (rows : List (List Nat)) : Prop :=
 rows.length = n ∧ ∃ xs, Sls w 1 v n xs ∧ ∀ i x, xs[i]? = some x → ∃ ln, SB w x ln (rows.getD i [])
theorem SM.below {w w' : World} {v : Value} {n : Nat} {rows : List (List Nat)} (h : SM w v n rows) {B : Nat} (hb : Below B w w') (hB : w.heap.size ≤ B) : SM w' v n rows := by
 obtain ⟨h1, xs, h2, h3⟩ := h
 refine ⟨h1, xs, h2.below hb hB, fun i x hx => ?_⟩
 obtain ⟨ln, h4⟩ := h3 i x hx
 exact ⟨ln, h4.below hb hB⟩
theorem SM.alloc {w : World} {v : Value} {n : Nat} {rows : List (List Nat)} (h : SM w v n rows) (o : Obj) : SM (w.alloc o) v n rows := h.below ((Below.refl _ _).alloc (Nat.le_refl _) o) (Nat.le_refl _)
theorem SM.nil (w : World) : SM w (.slice none 0 0) 0 [] := ⟨rfl, [], ⟨rfl, by decide, .inl ⟨rfl, none, 0, rfl, fun _ => rfl, by decide⟩⟩, fun i x h => by simp at h⟩
theorem SM.one (w : World) (x : Value) (ln : Nat) (l : List Nat) (h : SB w x ln l) : SM (w.alloc (.cells #[x] 35)) (.slice (some ⟨w.heap.size, 0, none⟩) 1 1) 1 [l] := by
 refine ⟨rfl, [x], ⟨rfl, by decide, .inr ⟨w.heap.size, 0, 1, rfl, Nat.le_refl _, by decide, by simp, fun j hj => ?_⟩⟩, fun i y hy => ?_⟩
 ·obtain rfl : j = 0 := by omega
  simp [go_sem]
 ·have hi : i = 0 := by
   rcases Nat.eq_zero_or_pos i with h | h
   ·exact h
   ·rw [List.getElem?_eq_none (by simp; omega)] at hy; cases hy
  subst hi
  simp at hy
  subst hy
  exact ⟨ln, h.alloc _⟩
theorem SM.form {w : World} {v : Value} {n : Nat} {rows : List (List Nat)} (h : SM w v n rows) (h0 : 0 < n) : ∃ b o cap, v = .slice (some ⟨b, o, none⟩) n cap ∧ n ≤ cap ∧ cap ≤ maxLen ∧ b < w.heap.size ∧ ∀ j, j < n → ∃ s ln c, w.cell? ⟨b, o + j, none⟩ = some (.slice s ln c) ∧ SB w (.slice s ln c) ln (rows.getD j []) := by
 obtain ⟨h1, xs, h2, h3⟩ := h
 obtain ⟨b, o, cap, rfl, hn, hc, hb, hcell⟩ := h2.form h0
 refine ⟨b, o, cap, rfl, hn, hc, hb, fun j hj => ?_⟩
 have hlx : j < xs.length := by rw [h2.1]; omega
 obtain ⟨ln, h4⟩ := h3 j _ (List.getElem?_eq_getElem hlx)
 obtain ⟨s, c, he, _, _⟩ := h4.len
 refine ⟨s, ln, c, ?_, by rw [← he]; exact h4⟩
 rw [hcell j (by omega), List.getElem?_eq_getElem hlx, he]
theorem SM.len {w : World} {v : Value} {n : Nat} {rows : List (List Nat)} (h : SM w v n rows) : ∃ sa cap, v = .slice sa n cap ∧ n ≤ cap ∧ cap ≤ maxLen := by
 obtain ⟨h1, xs, h2, h3⟩ := h
 exact h2.len
theorem flat_step (rows : List (List Nat)) (i : Nat) (h : i < rows.length) : (rows.take (i + 1)).flatten = (rows.take i).flatten ++ rows.getD i [] := by
 rw [List.take_succ_eq_append_getElem h, List.flatten_append, List.getD_eq_getElem?_getD, List.getElem?_eq_getElem h]
 simp
theorem flat_le (rows : List (List Nat)) (i : Nat) : (rows.take i).flatten.length ≤ rows.flatten.length := by
 conv => rhs; rw [← List.take_append_drop i rows, List.flatten_append, List.length_append]
 omega
set_option maxRecDepth 100000 in
set_option maxHeartbeats 8000000 in
theorem shasum_any (v : Value) (n : Nat) (rows : List (List Nat)) (hsz : rows.flatten.length ≤ 1000000000) (w : World) (hv : SM w v n rows) :
  Calls Tryz.prog 94 #[v] w fun e w' => e = .returned (.agg (ivA .u8 (sumN rows.flatten))) ∧ Below w.heap.size w w' := by
 obtain ⟨sv, cv, rfl, hcv, hmv⟩ := hv.len
 unfold maxLen at hmv
 have hrl := Lib.hid hv.1
 have hDl : Hid ((sumN rows.flatten).length = 20) := by unfold Hid sumN; simp [digest, putB_len]
 replace hv := Lib.hid hv
 generalize hD : sumN rows.flatten = D at *
 replace hD := Lib.hid hD
 go_enter Tryz.func94, Tryz.ntmps94
 have R0 := Lib.hid (hp_new w (.cells (ivA .u8 (zeros 20)) 47) _ rfl)
 have B0 := Lib.hid ((Below.refl w.heap.size w).alloc (Nat.le_refl _) (.cells (ivA .u8 (zeros 20)) 47))
 go_wp2_with (refine wpList_alloc_of rfl 47 rfl _ zero20 ?_)
 generalize w.alloc (.cells (ivA .u8 (zeros 20)) 47) = w0 at *
 refine (shanew_any _).mono ?_
 rintro e w1 ⟨g, rfl, hS, hb⟩
 have S1 := Lib.hid (hS.up (base' := w.heap.size) B0.out.size)
 have R1 := Lib.hid (hp_bel hb R0.out (hp_lt R0.out))
 have B1 := Lib.hid (B0.out.trans (hb.mono B0.out.size))
 clear hb R0 B0 hS
 dsimp only
 go_wp2_with fail
 go_loopg [9] n (fun m' i wx => ∃ (j : Nat) (vl : Value), m' = n - j ∧ j ≤ n ∧ i = .int .i64 (j : Nat) ∧ Hid (StV wx w.heap.size g (rows.take j).flatten vl) ∧ Hid (wx.heap[w.heap.size]? = some (.cells (ivA .u8 (zeros 20)) 47 (0, 0))) ∧ Hid (Below w.heap.size w wx))
 case atStart => exact ⟨0, _, by omega, by omega, rfl, S1, R1, B1⟩
 case round =>
  clear S1 R1 B1
  obtain ⟨j, vl, rfl, hj, rfl, S2, R2, B2⟩ := hrel
  by_cases hjn : j < n
  ·obtain ⟨b, o, cap, he, _, _, _, hcell⟩ := (hv.out.below B2.out (Nat.le_refl _)).form (by omega)
   cases he
   obtain ⟨s, ln, c, hc, hSB⟩ := hcell j hjn
   have hst := Lib.hid (flat_step rows j (by rw [hrl.out]; exact hjn))
   have hle := flat_le rows (j + 1)
   rw [hst.out, List.length_append, hSB.1] at hle
   have wr' := Lib.hid (write_any w.heap.size g (rows.take j).flatten vl (.slice s ln c) ln (rows.getD j []) (by omega) wr S2.out hSB B2.out.size)
   have hge := Lib.hid S2.out.ge
   have hni : Hid (w.heap.size ∉ stS g vl) := fun hm => by
    rcases List.mem_cons.1 hm with h | h
    ·have h1 := R2.out
     have h2 : wr.heap[g]? = _ := S2.out.st
     rw [← h, h1] at h2
     cases h2
    ·exact S2.out.lf.2.2.notin R2.out (by decide) h
   clear hcell hSB hle
   go_wp2_with fail
   refine wr'.out.mono ?_
   rintro e w3 ⟨rfl, vl', S3, T3, _⟩
   rw [← hst.out] at S3
   replace S3 := Lib.hid S3
   have R3 := Lib.hid (hp_st T3 R2.out hni.out)
   have B3 := Lib.hid (B2.out.trans (T3.below B2.out.size hge.out))
   clear T3 R2 B2 S2 wr' hge hni
   dsimp only
   go_wp2_with fail
   go_roundg (n - (j + 1))
   case measure => omega
   case rel => exact ⟨j + 1, vl', rfl, by omega, by go_num, S3, R3, B3⟩
  ·obtain rfl : j = n := by omega
   have hall : rows.take j = rows := List.take_of_length_le (by rw [hrl.out]; exact Nat.le_refl _)
   rw [hall] at S2
   have dn := Lib.hid (done_any w.heap.size g rows.flatten vl (by omega) wr S2.out)
   clear hall
   rw [hD.out] at dn
   go_wp2_with fail
   refine dn.out.mono ?_
   rintro e w3 ⟨rfl, hb⟩
   have R3 := Lib.hid (hp_bel hb R2.out (hp_lt R2.out))
   have B3 := Lib.hid (B2.out.trans (hb.mono B2.out.size))
   clear hb R2 B2 S2 dn
   dsimp only
   go_wp2_with (refine wpList_store_row rfl 47 _ _ rfl _ (ivA .u8 D) rfl rfl _ _ R3.out (by rw [info20, ivA_size, hDl.out]) (by rw [ivA_size, ivA_size, hDl.out, zeros_len]) (ivA_one _ _) ?_)
   exact bodyPost_ret (results_cell_row (p := 2) rfl _ _ w.heap.size _ _ _ _ rfl (hp_row R3.out _) Tryz.underlying47 rfl (by rw [info20, ivA_size, hDl.out])) rfl ⟨rfl, Below.setRow B3.out (by omega) _⟩
end Go.Proofs.YtikmhlbpefednaaGreat

namespace Go.Proofs.YtikmhlbpefednaaGreat
open Go.RowKit
theorem sum_len (m : List Nat) : (sumN m).length = 20 := by unfold sumN; simp [digest, putB_len]
end Go.Proofs.YtikmhlbpefednaaGreat
