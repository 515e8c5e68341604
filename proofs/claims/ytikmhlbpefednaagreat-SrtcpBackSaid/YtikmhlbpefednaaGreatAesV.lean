/- The reference's boxes of all bytes are those of the table. No condition. -/
import Derived.Test.YtikmhlbpefednaaGreatAesJ
import Derived.Test.YtikmhlbpefednaaGreatGAa
import Derived.Test.YtikmhlbpefednaaGreatGBa
import Derived.Test.YtikmhlbpefednaaGreatAesR
import Derived.Test.YtikmhlbpefednaaGreatGW7
namespace Go.Proofs.YtikmhlbpefednaaGreat
open Go.RowKit
theorem slB : SlT Tryz.prog 35 5 1 1 := SlT.mk' Tryz.underlying35 (by kernel_rfl) (by decide)
def vb (l : List Nat) : List Value := l.map fun n => Value.int .u8 (n : Nat)
theorem vb_len (l : List Nat) : (vb l).length = l.length := by simp [vb]
theorem vb_get (l : List Nat) (i : Nat) (h : i < l.length) : (vb l)[i]? = some (.int .u8 (l.getD i 0 : Nat)) := by simp [vb, List.getElem?_eq_getElem h]
theorem vb_snoc (l : List Nat) (n : Nat) : vb l ++ [.int .u8 (n : Nat)] = vb (l ++ [n]) := by simp [vb]
def pows (k : Nat) : List Nat := PLt.take k
theorem pows_len (k : Nat) (hk : k ≤ 255) : (pows k).length = k := by
 have : PLt.length = 256 := by decide +kernel
 simp [pows]; omega
theorem pows_get (k i : Nat) (hi : i < k) : (pows k).getD i 0 = pl i := by
 simp [pows, pl, List.getD_eq_getElem?_getD, List.getElem?_take, hi]
theorem pows_snoc (k : Nat) (hk : k < 255) : pows k ++ [pl k] = pows (k + 1) := by
 have : PLt.length = 256 := by decide +kernel
 unfold pows
 rw [List.take_succ_eq_append_getElem (by omega)]
 simp [pl, List.getD_eq_getElem?_getD, List.getElem?_eq_getElem (show k < PLt.length by omega)]
def outN : Nat → List Nat
 | 0 => (zeros 256).set 0 99
 | k + 1 => (outN k).set (pl k) (sbox.getD (pl k) 0)
theorem outN_len : ∀ k, (outN k).length = 256
 | 0 => by simp [outN, zeros_len]
 | k + 1 => by rw [outN, List.length_set, outN_len k]
theorem outN_end : outN 255 = sbox := by
 have h1 : Nat.beq 0 0 = true := rfl
 have hle := outN_len 255
 refine List.ext_getElem? fun i => ?_
 rcases Nat.lt_or_ge i 256 with hi | hi
 ·have := allR 256 (fun i => (outN 255).getD i 0 == sbox.getD i 0) (by decide +kernel) i hi
  have := beq_iff_eq.1 this
  rw [List.getD_eq_getElem?_getD, List.getD_eq_getElem?_getD, List.getElem?_eq_getElem (by omega), List.getElem?_eq_getElem (by rw [sbox_len]; omega)] at this
  rw [List.getElem?_eq_getElem (by omega), List.getElem?_eq_getElem (by rw [sbox_len]; omega)]
  simpa using this
 ·rw [List.getElem?_eq_none (by omega), List.getElem?_eq_none (by rw [sbox_len]; omega)]
theorem mix_inv (k : Nat) (hk : k < 255) : mo (pl ((255 - k) % 255)) 8 = sbox.getD (pl k) 0 := by
 have := allR 255 (fun k => mo (pl ((255 - k) % 255)) 8 == sbox.getD (pl k) 0) (by decide +kernel) k hk
 exact beq_iff_eq.1 this
theorem run_make256 : ∀ w, (Instr.makeSlice 35 (.int .i64 256) (.int .i64 256)).run Tryz.prog w = .ok (.slice (some ⟨w.heap.size, 0, none⟩) 256 256) (w.alloc (.cells (ivA .u8 (zeros 256)) 5)) := fun w => by kernel_rfl
set_option maxRecDepth 100000 in
set_option maxHeartbeats 4000000 in
theorem rboxes_any (w : World) :
  Calls Tryz.prog 121 #[] w fun e w' => ∃ g cap, e = .returned (.slice (some ⟨g, 0, none⟩) 256 cap) ∧ w.heap.size ≤ g ∧ 256 ≤ cap ∧ w'.heap[g]? = some (.cells (ivA .u8 sbox) 5 (0, 0)) ∧ Below w.heap.size w w' := by
 have t1 := Lib.hid rtimes_any
 have t2 := Lib.hid mix_any
 have hmk := run_make256
 have hpl := Lib.hid pl_lt
 go_enter Tryz.func121, Tryz.ntmps121
 go_wp2_with fail
 go_loopg [1] 254 (fun m v wx => ∃ k, m = 255 - k ∧ 1 ≤ k ∧ k ≤ 255 ∧ Hid (Own wx w.heap.size 5 v (vb (pows k))) ∧ Hid (Below w.heap.size w wx))
 case atStart =>
  exact ⟨1, by omega, by omega, by omega, Own.new w _ _ _ _ _ (Nat.le_refl _) (by rw [vb_len, pows_len _ (by omega)]) (by decide) rfl, (Below.refl _ _).alloc (Nat.le_refl _) _⟩
 case round =>
  obtain ⟨k, rfl, hk1, hk, H, L⟩ := hrel
  have hlen : Hid ((vb (pows k)).length = k) := by rw [Hid, vb_len, pows_len k hk]
  obtain ⟨g, cap, rfl, hg, hgl, hcap, hcm, hc, hf⟩ := H.out.form hlen.out (by omega)
  by_cases hk5 : k < 255
  ·have hcell : wr.cell? ⟨g, k - 1, none⟩ = some (.int .u8 (pl (k - 1) : Nat)) := by
    rw [hc (k - 1) (by omega), vb_get _ _ (by rw [pows_len k hk]; omega), pows_get k _ (by omega)]
   have hc3 : Hid (∀ w, Calls Tryz.prog 122 #[.int .u8 (pl (k - 1) : Nat), .int .u8 3] w fun e w' => e = .returned (.int .u8 (pl k : Nat)) ∧ w = w') := fun w => by
    have h1 := t1.out (pl (k - 1)) 3 (hpl.out (k - 1) (by omega)).1 (by omega) w
    rw [pl_step (k - 1) (by omega), show k - 1 + 1 = k by omega] at h1
    exact h1.mono fun e w' ⟨h, h'⟩ => ⟨h, h'.symm⟩
   have hkk : Hid (pows k ++ [pl k] = pows (k + 1)) := pows_snoc k hk5
   clear hc hf
   go_wp2_with (first | (go_at_call 122; refine (hc3.out _).mono ?_; rintro e w' ⟨rfl, rfl⟩) | (at_builtin; go_must (refine wpList_ap1 slB rfl _ _ rfl w.heap.size _ _ rfl (H.out.alloc _) hlen.out wr.heap.size rfl _ (cell_new0 _ _ _) rfl (by omega) (by decide) (by have := L.out.size; simp; omega) ?_; intro g' cap' w' h1 h2; have L2 := Lib.hid ((L.out.alloc L.out.size (.cells #[.int .u8 (pl k : Nat)] 5)).trans (Own.grown (by have := L.out.size; simp; omega) (Nat.le_refl _) (H.out.alloc _) h2)); rw [vb_snoc, hkk.out] at h1; replace h1 := Lib.hid h1; clear h2)))
   go_roundg (255 - (k + 1))
   case measure => omega
   case rel => exact ⟨k + 1, rfl, by omega, by omega, h1, L2⟩
  ·obtain rfl : k = 255 := by omega
   have h255 : Hid (∀ i, i < 255 → wr.cell? ⟨g, i, none⟩ = some (.int .u8 (pl i : Nat))) := fun i hi => by
    rw [hc i hi, vb_get _ _ (by rw [pows_len 255 hk]; omega), pows_get 255 _ hi]
   clear hc hf hk5 hlen H
   go_wp2_with fail
   have L3 := Lib.hid (L.out.alloc L.out.size (.cells (ivA .u8 (zeros 256)) 5))
   have H3 : Hid ((wr.alloc (.cells (ivA .u8 (zeros 256)) 5)).heap[wr.heap.size]? = some (.cells (ivA .u8 (zeros 256)) 5 (0, 0))) := al_new _ _ _ rfl
   have P3 : Hid (∀ i, i < 255 → (wr.alloc (.cells (ivA .u8 (zeros 256)) 5)).cell? ⟨g, i, none⟩ = some (.int .u8 (pl i : Nat))) := fun i hi => by
    rw [cell_alloc_lt _ _ _ _ hgl]; exact h255.out i hi
   have hz3 : wr.heap.size < (wr.alloc (.cells (ivA .u8 (zeros 256)) 5)).heap.size := by simp
   have hbw := L.out.size
   generalize wr.alloc (.cells (ivA .u8 (zeros 256)) 5) = w3 at *
   generalize wr.heap.size = b at *
   clear h255 L
   refine (t2.out 0 (by omega) w3).mono ?_
   rintro e w' ⟨rfl, hw⟩
   subst hw
   rw [show mo 0 8 = 99 by decide +kernel]
   have c0 := row_cell H3.out 0 (by rw [zeros_len]; omega)
   have f0 := row_frozen H3.out 0
   have H4 := Lib.hid (row_set H3.out 0 99)
   have P4 : Hid (∀ i, i < 255 → (w'.setCell ⟨b, 0, none⟩ (.int .u8 ((99 : Nat) : Int))).cell? ⟨g, i, none⟩ = some (.int .u8 (pl i : Nat))) := fun i hi => by
    rw [World.cell?_of_block (w := w') (row_other (show g ≠ b by omega))]; exact P3.out i hi
   have L4 := Lib.hid (Below.set3 L3.out (b := b) (o := 0) (by omega) (.int .u8 ((99 : Nat) : Int)))
   clear H3 P3
   go_wp2_with fail
   go_loopg [3] 255 (fun m i wx => ∃ k, m = 255 - k ∧ k ≤ 255 ∧ i = .int .i64 (k : Nat) ∧ Hid (wx.heap[b]? = some (.cells (ivA .u8 (outN k)) 5 (0, 0))) ∧ Hid (∀ i, i < 255 → wx.cell? ⟨g, i, none⟩ = some (.int .u8 (pl i : Nat))) ∧ Hid (Below w.heap.size w wx) ∧ b < wx.heap.size)
   case atStart => exact ⟨0, by omega, by omega, rfl, H4, P4, L4, by simp; omega⟩
   case round =>
    obtain ⟨k, rfl, hk, rfl, H, Pw, LL, hbz⟩ := hrel
    by_cases hk5 : k < 255
    ·have hp1 := hpl.out k (by omega)
     have hp2 := hpl.out ((255 - k) % 255) (by omega)
     have fa : ∀ x : LaterS [] wr, x.now.cell? ⟨g, k, none⟩ = some (.int .u8 (pl k : Nat)) := fun x => x.cell (Pw.out k hk5) (by simp)
     have fb : ∀ x : LaterS [] wr, x.now.cell? ⟨g, (-(k : Int) % 255).toNat, none⟩ = some (.int .u8 (pl ((255 - k) % 255) : Nat)) := fun x => by
      rw [show (-(k : Int) % 255).toNat = (255 - k) % 255 by omega]; exact x.cell (Pw.out _ (by omega)) (by simp)
     have hm := Lib.hid (mix_inv k hk5)
     go_wp2_with fail
     refine wp_region_gg [] [] [12] (by kernel_rfl) ?_
     refine hoist [] [] (a1 := ?_) 0 rfl (by kernel_rfl) (.inl ⟨rfl, rfl⟩) rfl rfl rfl (fun x K hK => ?_) ?_
     rotate_left
     ·go_big_quiet_op
      exact hK
     refine hoist [] [] (a1 := ?_) 1 rfl (by kernel_rfl) (.inl ⟨rfl, rfl⟩) rfl rfl rfl (fun x K hK => ?_) ?_
     rotate_left
     ·go_big_quiet_op
      exact hK
     refine hoist [] [] (a1 := ?_) 2 rfl (by kernel_rfl) (.inl ⟨rfl, rfl⟩) rfl rfl rfl (fun x K hK => ?_) ?_
     rotate_left
     ·go_big_quiet_op
      exact hK
     refine hoist [] [] (a1 := ?_) 3 rfl (by kernel_rfl) (.inl ⟨rfl, rfl⟩) rfl rfl rfl (fun x K hK => ?_) ?_
     rotate_left
     ·go_big_quiet_op
      exact hK
     refine hoist [] [] (a1 := ?_) 4 rfl (by kernel_rfl) (.inl ⟨rfl, rfl⟩) rfl rfl rfl (fun x K hK => ?_) ?_
     rotate_left
     ·go_big_quiet_op
      exact hK
     refine hoist [] [] (a1 := ?_) 5 rfl (by kernel_rfl) (.inl ⟨rfl, rfl⟩) rfl rfl rfl (fun x K hK => ?_) ?_
     rotate_left
     ·go_big_quiet_op
      exact hK
     refine hoist [] [] (a1 := ?_) 6 rfl (by kernel_rfl) (.inl ⟨rfl, rfl⟩) rfl rfl rfl (fun x K hK => ?_) ?_
     rotate_left
     ·go_big_quiet_op
      exact hK
     refine hoist [] [] (a1 := ?_) 7 rfl (by kernel_rfl) (.inl ⟨rfl, rfl⟩) rfl rfl rfl (fun x K hK => ?_) ?_
     rotate_left
     ·go_big_quiet_op
      exact hK
     refine hoist [] [] (a1 := ?_) 8 rfl (by kernel_rfl) (.inl ⟨rfl, rfl⟩) rfl rfl rfl (fun x K hK => ?_) ?_
     rotate_left
     ·go_big_quiet_op
      exact hK
     refine hoist [] [] (a1 := ?_) 9 rfl (by kernel_rfl) (.inl ⟨rfl, rfl⟩) rfl rfl rfl (fun x K hK => ?_) ?_
     rotate_left
     ·go_big_quiet_op
      exact hK
     refine hoist [] [] (a1 := ?_) 10 rfl (by kernel_rfl) (.inl ⟨rfl, rfl⟩) rfl rfl rfl (fun x K hK => ?_) ?_
     rotate_left
     ·go_big_quiet_op
      exact hK
     refine hoist_call [] [] (a1 := ?_) 11 rfl (by kernel_rfl) (.inl ⟨rfl, rfl⟩) rfl rfl rfl (fun x K hK => ?_) ?_
     rotate_left
     ·go_big_quiet_op
      apply Exists.intro
      refine ⟨fun y => ?_, ?_⟩
      ·exact Calls.laterS_same (t2.out _ hp2.1 _)
      ·exact hK
     refine tail 12 rfl (by kernel_rfl) rfl (fun xr => ?_)
     simp only [List.drop_succ_cons, List.drop_zero]
     rw [hm.out]
     have H' := Lib.hid (xr.heap H.out (by simp))
     have c1 := row_cell H'.out (pl k) (by rw [outN_len]; exact hp1.1)
     have f1 := row_frozen H'.out (pl k)
     have hpn := hp1.1
     have Pw' : Hid (∀ i, i < 255 → (xr.now.setCell ⟨b, pl k, none⟩ (.int .u8 (sbox.getD (pl k) 0 : Nat))).cell? ⟨g, i, none⟩ = some (.int .u8 (pl i : Nat))) := fun i hi => by
      rw [World.cell?_of_block (w := xr.now) (row_other (show g ≠ b by omega))]; exact xr.cell (Pw.out i hi) (by simp)
     have LL' := Lib.hid (Below.set3 (LL.out.trans (xr.ok.below (B := w.heap.size) LL.out.size (by simp))) (b := b) (o := pl k) (by omega) (.int .u8 (sbox.getD (pl k) 0 : Nat)))
     have hs := Lib.hid (row_set H'.out (pl k) (sbox.getD (pl k) 0))
     have hxs := xr.ok.size
     clear fa fb hp1 hp2
     go_wp2_with fail
     go_roundg (255 - (k + 1))
     case measure => omega
     case rel => exact ⟨k + 1, rfl, by omega, by go_num, hs, Pw', LL', by simp; omega⟩
    ·obtain rfl : k = 255 := by omega
     rw [outN_end] at H
     go_wp2_with fail
     go_ret
     exact ⟨b, 256, rfl, by omega, Nat.le_refl _, H.out, LL.out⟩
end Go.Proofs.YtikmhlbpefednaaGreat
