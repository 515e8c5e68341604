/-  -/
import Derived.Test.YtikmhlbpefednaaGreatGAa
import Derived.Deep.WholeRow
import Derived.Laws.CopyOwn
import Derived.Deep.MidRow
import Derived.Deep.DeepCutAuto
namespace Go.Proofs.YtikmhlbpefednaaGreat
open Go.RowKit
theorem zero176 : ∀ w, (zeroValue 249).run Tryz.prog w = .ok (.agg (ivA .u8 (zeros 176))) w := fun w => by kernel_rfl
theorem info176 : (Tryz.prog.info? 249).map (·.size) = some 176 := by kernel_rfl
theorem infou8 : (Tryz.prog.info? 5).map (·.size) = some 1 := by kernel_rfl
theorem cell_alloc_lt (w : World) (o : Obj) (g j : Nat) (h : g < w.heap.size) : (w.alloc o).cell? ⟨g, j, none⟩ = w.cell? ⟨g, j, none⟩ := by
 unfold World.cell?; rw [al_old _ _ _ h]
def wt (W : List Nat) (rd a j : Nat) : Nat :=
 if a % 16 = 0 then (if j = 0 then sbox.getD (W.getD (a - 3) 0) 0 ^^^ rd else if j = 1 then sbox.getD (W.getD (a - 2) 0) 0 else if j = 2 then sbox.getD (W.getD (a - 1) 0) 0 else sbox.getD (W.getD (a - 4) 0) 0)
 else W.getD (a - 4 + j) 0
def wput (W : List Nat) (rd a : Nat) : Nat → List Nat
 | 0 => W
 | i + 1 => (wput W rd a i).set (a + i) (W.getD (a - 16 + i) 0 ^^^ wt W rd a i)
def ws (key : List Nat) : Nat → List Nat × Nat
 | 0 => (key ++ zeros 160, 1)
 | n + 1 => (wput (ws key n).1 (ws key n).2 (16 + 4 * n) 4, if (16 + 4 * n) % 16 = 0 then dbl (ws key n).2 else (ws key n).2)
def wordsN (key : List Nat) : List Nat := (ws key 40).1
theorem wput_len (W : List Nat) (rd a : Nat) : ∀ i, (wput W rd a i).length = W.length
 | 0 => rfl
 | i + 1 => by rw [wput, List.length_set, wput_len W rd a i]
theorem wt_lt {W : List Nat} (hW : Byt W) {rd : Nat} (hr : rd < 256) (a j : Nat) : wt W rd a j < 256 := by
 unfold wt
 split
 ·split
  ·exact Nat.xor_lt_two_pow (n := 8) (sbox_lt _) hr
  ·split
   ·exact sbox_lt _
   ·split <;> exact sbox_lt _
 ·exact hW _
theorem wput_byt {W : List Nat} (hW : Byt W) {rd : Nat} (hr : rd < 256) (a : Nat) : ∀ i, Byt (wput W rd a i)
 | 0 => hW
 | i + 1 => (wput_byt hW hr a i).set _ _ (Nat.xor_lt_two_pow (n := 8) (hW _) (wt_lt hW hr a i))
theorem wput_old (W : List Nat) (rd a : Nat) : ∀ i j, j < a → (wput W rd a i).getD j 0 = W.getD j 0
 | 0, _, _ => rfl
 | i + 1, j, h => by
  rw [wput, List.getD_eq_getElem?_getD, List.getElem?_set_ne (by omega), ← List.getD_eq_getElem?_getD]
  exact wput_old W rd a i j h
theorem ws_len (key : List Nat) (h : key.length = 16) : ∀ n, (ws key n).1.length = 176
 | 0 => by simp [ws, h, zeros_len]
 | n + 1 => by rw [ws]; exact (wput_len _ _ _ _).trans (ws_len key h n)
theorem ws_byt (key : List Nat) (h : Byt key) : ∀ n, Byt (ws key n).1 ∧ (ws key n).2 < 256
 | 0 => by
  refine ⟨fun j => ?_, by simp [ws]⟩
  simp only [ws]
  rw [List.getD_eq_getElem?_getD, List.getElem?_append]
  split
  ·rw [← List.getD_eq_getElem?_getD]; exact h j
  ·rw [← List.getD_eq_getElem?_getD, zeros_get]; omega
 | n + 1 => by
  obtain ⟨h1, h2⟩ := ws_byt key h n
  refine ⟨wput_byt h1 h2 _ _, ?_⟩
  simp only [ws]
  split
  ·exact dbl_lt _
  ·exact h2
theorem run_sliceAt_arr (P : Program) (t e : TypeId) (n : Nat) (i : TypeInfo) (b : Nat) (lo hi : Int) (ht : P.underlying t = some (.array n e)) (hi' : P.info? e = some i) (h1 : i.size = 1) (h0 : 0 ≤ lo) (hl : lo ≤ hi) (hh : hi ≤ n) (hn : lo < n) (w : World) :
  (Instr.sliceAt t (.pointer (some ⟨b, 0, none⟩)) (some (.int .i64 lo)) (some (.int .i64 hi)) none).run P w = .ok (.slice (some ⟨b, lo.toNat, none⟩) (hi.toNat - lo.toNat) (n - lo.toNat)) w := by
 have e1 : ((hi.toNat : Nat) : Int) = hi := Int.toNat_of_nonneg (by omega)
 have hne : ¬ n = lo.toNat := by omega
 have ha : (⟨b, 0, none⟩ : Addr).add lo.toNat = ⟨b, lo.toNat, none⟩ := by rw [Addr.add_mid, Nat.zero_add]
 have c1 : 0 ≤ hi ∧ hi ≤ (n : Int) := ⟨by omega, hh⟩
 have c2 : 0 ≤ lo ∧ lo ≤ ((hi.toNat : Nat) : Int) := ⟨h0, by omega⟩
 simp [Instr.sliceAt, Instr.sureAddr, Instr.sliceBounds, Instr.sliceBound, asIntOf, run_underlying ht, sizeOf, typeInfo, hi', h1, c1, c2, hne, ha, go_sem]
 intro h; omega
set_option maxRecDepth 100000 in
set_option maxHeartbeats 8000000 in
theorem words_any (key : List Nat) (hk : key.length = 16) (hB : Byt key) (w : World) :
  Calls Tryz.prog 152 #[.agg (ivA .u8 sbox), .agg (ivA .u8 key)] w fun e w' => e = .returned (.agg (ivA .u8 (wordsN key))) ∧ Below w.heap.size w w' := by
 replace hk := Lib.hid hk
 replace hB := Lib.hid hB
 go_enter Tryz.func152, Tryz.ntmps152
 go_wp2_with (first | (refine wpList_alloc_of rfl 249 rfl _ zero176 ?_))
 generalize hw4 : (((w.alloc (.cells (ivA .u8 sbox) 247)).alloc (.cells (ivA .u8 key) 22)).alloc (.cells (ivA .u8 (zeros 176)) 249)).alloc (.cells (ivA .u8 (zeros 176)) 249) = w4
 have H0 : Hid (w4.heap[w.heap.size]? = some (.cells (ivA .u8 sbox) 247 (0, 0))) := by
  refine Lib.hid ?_; rw [← hw4, al_old _ _ _ (by simp; omega), al_old _ _ _ (by simp; omega), al_old _ _ _ (by simp), al_new _ _ _ rfl]
 have H1 : Hid (w4.heap[w.heap.size + 1]? = some (.cells (ivA .u8 key) 22 (0, 0))) := by
  refine Lib.hid ?_; rw [← hw4, al_old _ _ _ (by simp), al_old _ _ _ (by simp), al_new _ _ _ (by simp)]
 have H2 : Hid (w4.heap[w.heap.size + 2]? = some (.cells (ivA .u8 (zeros 176)) 249 (0, 0))) := by
  refine Lib.hid ?_; rw [← hw4, al_old _ _ _ (by simp), al_new _ _ _ (by simp)]
 have H3 : Hid (w4.heap[w.heap.size + 3]? = some (.cells (ivA .u8 (zeros 176)) 249 (0, 0))) := by
  refine Lib.hid ?_; rw [← hw4, al_new _ _ _ (by simp)]
 have L : Below w.heap.size w w4 := by
  rw [← hw4]; exact ((((Below.refl _ _).alloc (Nat.le_refl _) _).alloc (by simp) _).alloc (by simp; omega) _).alloc (by simp; omega) _
 have hz : w4.heap.size = w.heap.size + 4 := by rw [← hw4]; simp
 clear hw4
 replace hz := Lib.hid hz
 go_still_tail 2, (by kernel_rfl)
 have hcut : splice ((zeros 176).map fun n => Value.int .u8 (n : Nat)) 0 (key.map fun n => Value.int .u8 (n : Nat)) = (key ++ zeros 160).map fun n => Value.int .u8 (n : Nat) := by
  unfold splice
  have hk' := hk.out
  simp [hk', zeros, List.map_append]
 replace hcut := Lib.hid hcut
 refine wpList_copy_splice rfl (.tmp 10) (.tmp 11) 35 35 rfl 5 Tryz.underlying35 infou8 _ _ _ _ _ _ rfl rfl (w.heap.size + 3) 0 ((zeros 176).map fun n => Value.int .u8 (n : Nat)) 249 H3.out (key.map fun n => Value.int .u8 (n : Nat)) (by rw [List.length_map, hk.out]; rfl) (fun _ => ⟨rfl, _, rfl, fun j v hj => ?_⟩) (by rw [List.length_map, List.length_map, hk.out, zeros_len]; omega) (by simp [Value.oneCell']) (w.heap.size + 3) w4 ((Below.refl _ _).drew) (Nat.le_refl _) ?_
 ·have hj' : j < key.length := by have := (List.getElem?_eq_some_iff.1 hj).1; simpa using this
  rw [Addr.add_mid, Nat.zero_add]
  have := row_cell H1.out j hj'
  rw [List.getElem?_map, List.getElem?_eq_getElem hj'] at hj
  simp only [Option.map_some, Option.some.injEq] at hj
  rw [← hj]
  simpa [List.getD_eq_getElem?_getD, List.getElem?_eq_getElem hj'] using this
 intro w5 H3' hb5
 have H3w : Hid (w5.heap[w.heap.size + 3]? = some (.cells (ivA .u8 (ws key 0).1) 249 (0, 0))) := by
  have := H3'.out
  rw [hcut.out] at this
  exact this
 have H0w := Lib.hid ((hb5.block w.heap.size (by omega)).trans H0.out)
 have H2w := Lib.hid ((hb5.block (w.heap.size + 2) (by omega)).trans H2.out)
 have Lw := L.trans (hb5.mono (by omega))
 have hzw : w.heap.size + 3 < w5.heap.size := by have := hb5.size; have := hz.out; omega
 clear H0 H1 H2 H3 H3' hb5 hz hcut L
 go_wp2_with fail
 go_loopg [6, 7] 40 (fun n rd at_ wx => ∃ i, n = 40 - i ∧ i ≤ 40 ∧ rd = .int .u8 ((ws key i).2 : Nat) ∧ at_ = .int .i64 (16 + 4 * (i : Nat) : Int) ∧ Hid (wx.heap[w.heap.size]? = some (.cells (ivA .u8 sbox) 247 (0, 0))) ∧ Hid (wx.heap[w.heap.size + 2]? = some (.cells (ivA .u8 (zeros 176)) 249 (0, 0))) ∧ Hid (wx.heap[w.heap.size + 3]? = some (.cells (ivA .u8 (ws key i).1) 249 (0, 0))) ∧ Below w.heap.size w wx ∧ w.heap.size + 3 < wx.heap.size)
 case atStart => exact ⟨0, by omega, by omega, rfl, rfl, H0w, H2w, H3w, Lw, hzw⟩
 case round =>
  clear H0w H2w H3w Lw hzw
  obtain ⟨i, rfl, hi, rfl, rfl, H0, H2, H3, L, hz⟩ := hrel
  have hlen := Lib.hid (ws_len key hk.out i)
  obtain ⟨hbW, hrd⟩ := ws_byt key hB.out i
  replace hbW := Lib.hid hbW
  by_cases hi40 : i < 40
  ·have hnext : Hid (ws key (i + 1) = (wput (ws key i).1 (ws key i).2 (16 + 4 * i) 4, if (16 + 4 * i) % 16 = 0 then dbl (ws key i).2 else (ws key i).2)) := rfl
   generalize hWW : (ws key i).1 = W at *
   generalize hRR : (ws key i).2 = rd at *
   clear hWW hRR
   have t0 := row_cell H3.out (12 + 4 * i) (by rw [hlen.out]; omega)
   have t1 := row_cell H3.out (12 + 4 * i + 1) (by rw [hlen.out]; omega)
   have t2 := row_cell H3.out (12 + 4 * i + 2) (by rw [hlen.out]; omega)
   have t3 := row_cell H3.out (12 + 4 * i + 3) (by rw [hlen.out]; omega)
   have b0 := hbW.out (12 + 4 * i)
   have b1 := hbW.out (12 + 4 * i + 1)
   have b2 := hbW.out (12 + 4 * i + 2)
   have b3 := hbW.out (12 + 4 * i + 3)
   have hsl : ∀ wx, (Instr.sliceAt 249 (.pointer (some ⟨w.heap.size + 1 + 1 + 1, 0, none⟩)) (some (.int .i64 (16 + 4 * (i : Int) - 4))) (some (.int .i64 (16 + 4 * (i : Int)))) none).run Tryz.prog wx = .ok (.slice (some ⟨w.heap.size + 3, 12 + 4 * i, none⟩) 4 (176 - (12 + 4 * i))) wx := fun wx => by
    rw [run_sliceAt_arr Tryz.prog 249 5 176 _ _ _ _ Tryz.underlying249 rfl rfl (by omega) (by omega) (by omega) (by omega)]
    have q1 : (16 + 4 * (i : Int) - 4).toNat = 12 + 4 * i := by omega
    have q2 : (16 + 4 * (i : Int)).toNat - (12 + 4 * i) = 4 := by omega
    rw [q1, q2]
   have harr : ∀ wx a c, (Instr.arrayAt 224 (.slice (some a) 4 c)).run Tryz.prog wx = .ok (.pointer (some a)) wx := fun wx a c => by simp [Instr.arrayAt, run_underlying Tryz.underlying224]
   have d0 := row_cell H0.out (W.getD (12 + 4 * i) 0) (by rw [sbox_len]; exact b0)
   have d1 := row_cell H0.out (W.getD (12 + 4 * i + 1) 0) (by rw [sbox_len]; exact b1)
   have d2 := row_cell H0.out (W.getD (12 + 4 * i + 2) 0) (by rw [sbox_len]; exact b2)
   have d3 := row_cell H0.out (W.getD (12 + 4 * i + 3) 0) (by rw [sbox_len]; exact b3)
   have u0 : Hid (wt W rd (16 + 4 * i) 0 = if (16 + 4 * i) % 16 = 0 then sbox.getD (W.getD (12 + 4 * i + 1) 0) 0 ^^^ rd else W.getD (12 + 4 * i) 0) := by
    show _ = _; unfold wt; rw [show 16 + 4 * i - 3 = 12 + 4 * i + 1 by omega, show 16 + 4 * i - 4 + 0 = 12 + 4 * i by omega]; simp
   have u1 : Hid (wt W rd (16 + 4 * i) 1 = if (16 + 4 * i) % 16 = 0 then sbox.getD (W.getD (12 + 4 * i + 2) 0) 0 else W.getD (12 + 4 * i + 1) 0) := by
    show _ = _; unfold wt; rw [show 16 + 4 * i - 2 = 12 + 4 * i + 2 by omega, show 16 + 4 * i - 4 + 1 = 12 + 4 * i + 1 by omega]; simp
   have u2 : Hid (wt W rd (16 + 4 * i) 2 = if (16 + 4 * i) % 16 = 0 then sbox.getD (W.getD (12 + 4 * i + 3) 0) 0 else W.getD (12 + 4 * i + 2) 0) := by
    show _ = _; unfold wt; rw [show 16 + 4 * i - 1 = 12 + 4 * i + 3 by omega, show 16 + 4 * i - 4 + 2 = 12 + 4 * i + 2 by omega]; simp
   have u3 : Hid (wt W rd (16 + 4 * i) 3 = if (16 + 4 * i) % 16 = 0 then sbox.getD (W.getD (12 + 4 * i) 0) 0 else W.getD (12 + 4 * i + 3) 0) := by
    show _ = _; unfold wt; rw [show 16 + 4 * i - 4 = 12 + 4 * i by omega]; simp
   have s1 := sbox_lt (W.getD (12 + 4 * i + 1) 0)
   generalize W.getD (12 + 4 * i) 0 = x0 at *
   generalize W.getD (12 + 4 * i + 1) 0 = x1 at *
   generalize W.getD (12 + 4 * i + 2) 0 = x2 at *
   generalize W.getD (12 + 4 * i + 3) 0 = x3 at *
   generalize sbox.getD x0 0 = y0 at *
   generalize sbox.getD x1 0 = y1 at *
   generalize sbox.getD x2 0 = y2 at *
   generalize sbox.getD x3 0 = y3 at *
   have hxr := u8_xor_nat y1 rd s1 hrd
   have hB0 : w.heap.size < wr.heap.size := by omega
   have hB3 : w.heap.size + 3 < wr.heap.size := by omega
   have b0' : (x0 : Int) < 256 := by omega
   have b1' : (x1 : Int) < 256 := by omega
   have b2' : (x2 : Int) < 256 := by omega
   have b3' : (x3 : Int) < 256 := by omega
   go_upto_if 25 with (fail)
   clear hsl harr t0 t1 t2 t3
   go_cut [6] (fun s6 wc => ∃ d, s6 = .int .u8 ((ws key (i + 1)).2 : Nat) ∧ wc = World.drewN (wr.alloc (.cells (ivA .u8 [wt W rd (16 + 4 * i) 0, wt W rd (16 + 4 * i) 1, wt W rd (16 + 4 * i) 2, wt W rd (16 + 4 * i) 3]) 224)) d)
   case first =>
    by_cases h16 : (16 + 4 * i) % 16 = 0
    ·have h16' : ((4 * (i : Int)) % 16 == 0) = true := by simp; omega
     have v0 := u0.out
     have v1 := u1.out
     have v2 := u2.out
     have v3 := u3.out
     have hn := hnext.out
     rw [if_pos h16] at v0 v1 v2 v3 hn
     replace v0 := Lib.hid v0
     replace v1 := Lib.hid v1
     replace v2 := Lib.hid v2
     replace v3 := Lib.hid v3
     replace hn := Lib.hid hn
     have hd := Lib.hid (double_any rd hrd)
     clear h16
     generalize hwv : wr.alloc (.cells #[Value.int IntKind.u8 (x0 : Nat), Value.int IntKind.u8 (x1 : Nat), Value.int IntKind.u8 (x2 : Nat), Value.int IntKind.u8 (x3 : Nat)] 224) = wv
     have hc : ∀ g j, g < wr.heap.size → wv.cell? ⟨g, j, none⟩ = wr.cell? ⟨g, j, none⟩ := fun g j h => by rw [← hwv]; exact cell_alloc_lt _ _ _ _ h
     have e0 := (hc _ _ hB0).trans d0
     have e1 := (hc _ _ hB0).trans d1
     have e2 := (hc _ _ hB0).trans d2
     have e3 := (hc _ _ hB0).trans d3
     have g0 : wv.cell? ⟨wr.heap.size, 0, none⟩ = some (.int .u8 (x0 : Nat)) := by rw [← hwv]; simp [go_sem]
     have g1 : wv.cell? ⟨wr.heap.size, 1, none⟩ = some (.int .u8 (x1 : Nat)) := by rw [← hwv]; simp [go_sem]
     have g2 : wv.cell? ⟨wr.heap.size, 2, none⟩ = some (.int .u8 (x2 : Nat)) := by rw [← hwv]; simp [go_sem]
     have g3 : wv.cell? ⟨wr.heap.size, 3, none⟩ = some (.int .u8 (x3 : Nat)) := by rw [← hwv]; simp [go_sem]
     have i0 : (0 : Int) ≤ x0 := by omega
     have i1 : (0 : Int) ≤ x1 := by omega
     have i2 : (0 : Int) ≤ x2 := by omega
     have i3 : (0 : Int) ≤ x3 := by omega
     have n0 : (x0 : Int).toNat = x0 := rfl
     have n1 : (x1 : Int).toNat = x1 := rfl
     have n2 : (x2 : Int).toNat = x2 := rfl
     have n3 : (x3 : Int).toNat = x3 := rfl
     have hT : Hid (wv.heap[wr.heap.size]? = some (.cells #[Value.int IntKind.u8 (x0 : Nat), Value.int IntKind.u8 (x1 : Nat), Value.int IntKind.u8 (x2 : Nat), Value.int IntKind.u8 (x3 : Nat)] 224 (0, 0))) := by
      refine Lib.hid ?_; rw [← hwv, al_new _ _ _ rfl]
     replace hwv := Lib.hid hwv
     clear hc d0 d1 d2 d3
     go_wp2_with fail
     go_still_tail 19, (by kernel_rfl)
     change wpList _ _ _ _ _ (World.drew _)
     clear e0 e1 e2 e3 g0 g1 g2 g3
     go_wp2_with (first | (refine wpList_store_row rfl 224 _ _ rfl _ _ rfl rfl _ _ hT.out rfl rfl (by simp [Value.oneCell']) ?_))
     refine (hd.out _).mono ?_
     rintro e w' ⟨rfl, rfl⟩
     go_wp2_with fail
     go_meet
     refine ⟨1, by rw [hn.out], ?_⟩
     rw [← hwv.out, v0.out, v1.out, v2.out, v3.out]
     show World.drewN (World.setRow (wr.alloc _) _ _) 1 = _
     rw [World.setRow_alloc_new]
     rfl
    ·have h16' : ((4 * (i : Int)) % 16 == 0) = false := by simp; omega
     have v0 := u0.out
     have v1 := u1.out
     have v2 := u2.out
     have v3 := u3.out
     have hn := hnext.out
     rw [if_neg h16] at v0 v1 v2 v3 hn
     replace v0 := Lib.hid v0
     replace v1 := Lib.hid v1
     replace v2 := Lib.hid v2
     replace v3 := Lib.hid v3
     replace hn := Lib.hid hn
     clear h16
     go_wp2_with fail
     go_meet
     exact ⟨0, by rw [hn.out], by rw [v0.out, v1.out, v2.out, v3.out]; rfl⟩
   case rest =>
    obtain ⟨d, rfl, rfl⟩ := hcut
    go_wp2_with fail
    rename World => wo
    have hi1 : Hid ((ws key (i + 1)).1 = wput W rd (16 + 4 * i) 4) := by
     show _ = _; rw [hnext.out]
    go_loopg [47] 4 (fun n s47 wx => ∃ j, n = 4 - j ∧ j ≤ 4 ∧ s47 = .int .i64 (j : Nat) ∧ Hid (wx.heap[w.heap.size]? = some (.cells (ivA .u8 sbox) 247 (0, 0))) ∧ Hid (wx.heap[w.heap.size + 2]? = some (.cells (ivA .u8 (zeros 176)) 249 (0, 0))) ∧ Hid (wx.heap[w.heap.size + 3]? = some (.cells (ivA .u8 (wput W rd (16 + 4 * i) j)) 249 (0, 0))) ∧ Hid (wx.heap[wo.heap.size]? = some (.cells (ivA .u8 [wt W rd (16 + 4 * i) 0, wt W rd (16 + 4 * i) 1, wt W rd (16 + 4 * i) 2, wt W rd (16 + 4 * i) 3]) 224 (0, 0))) ∧ Below w.heap.size w wx ∧ wo.heap.size < wx.heap.size)
    case atStart =>
     refine ⟨0, by omega, by omega, rfl, ?_, ?_, ?_, ?_, ?_, ?_⟩
     ·exact Lib.hid ((al_old _ _ _ (by omega)).trans H0.out)
     ·exact Lib.hid ((al_old _ _ _ (by omega)).trans H2.out)
     ·exact Lib.hid ((al_old _ _ _ (by omega)).trans H3.out)
     ·exact Lib.hid (al_new _ _ _ rfl)
     ·exact Below.drewN (L.alloc (by omega) _) _
     ·show _ < (wo.alloc _).heap.size; simp
    case round =>
     clear H0 H2 H3 L
     obtain ⟨j, rfl, hj, rfl, H0, H2, H3, H4, L, hz'⟩ := hrel
     by_cases hj4 : j < 4
     ·have hl1 : (wput W rd (16 + 4 * i) j).length = 176 := (wput_len _ _ _ _).trans hlen.out
      have c1 := row_cell H3.out (4 * i + j) (by rw [hl1]; omega)
      have c2 := row_cell H4.out j (by simpa using hj4)
      have c3 := row_cell H3.out (16 + 4 * i + j) (by rw [hl1]; omega)
      have f3 := row_frozen H3.out (16 + 4 * i + j)
      have c4 : [wt W rd (16 + 4 * i) 0, wt W rd (16 + 4 * i) 1, wt W rd (16 + 4 * i) 2, wt W rd (16 + 4 * i) 3].getD j 0 = wt W rd (16 + 4 * i) j := by
       have : j = 0 ∨ j = 1 ∨ j = 2 ∨ j = 3 := by omega
       rcases this with rfl | rfl | rfl | rfl <;> rfl
      have c5 : (wput W rd (16 + 4 * i) j).getD (4 * i + j) 0 = W.getD (16 + 4 * i - 16 + j) 0 := by
       rw [wput_old _ _ _ _ _ (by omega)]; congr 1; omega
      rw [c4] at c2
      rw [c5] at c1
      have x1 := hbW.out (16 + 4 * i - 16 + j)
      have x2 := wt_lt hbW.out hrd (16 + 4 * i) j
      have hs := Lib.hid (row_set H3.out (16 + 4 * i + j) (W.getD (16 + 4 * i - 16 + j) 0 ^^^ wt W rd (16 + 4 * i) j))
      have hn := Lib.hid (show wput W rd (16 + 4 * i) (j + 1) = (wput W rd (16 + 4 * i) j).set (16 + 4 * i + j) (W.getD (16 + 4 * i - 16 + j) 0 ^^^ wt W rd (16 + 4 * i) j) from rfl)
      clear c4 c5
      generalize W.getD (16 + 4 * i - 16 + j) 0 = p1 at *
      generalize hp2 : wt W rd (16 + 4 * i) j = p2 at c2 x2 hs hn
      clear hp2
      have hx := u8_xor_nat p1 p2 x1 x2
      have a0 : IntKind.i64.wrap (16 + 4 * (i : Int) + (j : Int)) = 16 + 4 * (i : Int) + (j : Int) := IntWalk.i64_in _ (by omega)
      have a1 : IntKind.i64.wrap (16 + 4 * (i : Int) - 16) = 4 * (i : Int) := by rw [IntWalk.i64_in _ (by omega)]; omega
      have a2 : IntKind.i64.wrap (4 * (i : Int) + (j : Int)) = 4 * (i : Int) + (j : Int) := IntWalk.i64_in _ (by omega)
      have a3 : 0 ≤ 4 * (i : Int) + (j : Int) := by omega
      have a4 : 4 * (i : Int) + (j : Int) < 176 := by omega
      have a5 : (4 * (i : Int) + (j : Int)).toNat = 4 * i + j := by omega
      have a6 : 0 ≤ 16 + 4 * (i : Int) + (j : Int) := by omega
      have a7 : 16 + 4 * (i : Int) + (j : Int) < 176 := by omega
      have a8 : (16 + 4 * (i : Int) + (j : Int)).toNat = 16 + 4 * i + j := by omega
      have hszs := hz
      go_wp2_with fail
      go_still_tail 14, (by kernel_rfl)
      change wpList _ _ _ _ _ wr.drew
      clear a0 a1 a2 a3 a4 a5
      go_wp2_with fail
      go_roundg (4 - (j + 1))
      case measure => omega
      case rel =>
       refine ⟨j + 1, rfl, by omega, by go_num, ?_, ?_, ?_, ?_, (Below.set3 L (by omega) _).drew, by simp; omega⟩
       ·exact Lib.hid ((row_other (by omega)).trans H0.out)
       ·exact Lib.hid ((row_other (by omega)).trans H2.out)
       ·rw [hn.out]; exact hs
       ·exact Lib.hid ((row_other (by omega)).trans H4.out)
     ·obtain rfl : j = 4 := by omega
      go_wp2_with fail
      go_roundg (40 - (i + 1))
      case measure => omega
      case rel =>
       refine ⟨i + 1, rfl, by omega, rfl, by go_num, H0, H2, ?_, L, by omega⟩
       rw [hi1.out]; exact H3
  ·obtain rfl : i = 40 := by omega
   go_wp2_with (first | (refine wpList_load_row rfl 249 _ rfl _ rfl _ _ _ _ H3.out Tryz.underlying249 rfl (by rw [info176, ivA_size, hlen.out]) ?_) | (refine wpList_store_row rfl 249 _ _ rfl _ _ rfl rfl _ _ H2.out (by rw [info176, ivA_size, hlen.out]) (by rw [ivA_size, ivA_size, zeros_len, hlen.out]) (ivA_one _ _) ?_))
   exact bodyPost_ret (results_cell_row (p := 4) rfl _ _ (w.heap.size + 2) _ _ _ _ rfl (setRow_get _ _ _ _ _ _ H2.out) Tryz.underlying249 rfl (by rw [info176, ivA_size, hlen.out])) rfl ⟨rfl, Below.setRow L (by omega) _⟩
theorem wordsN_len (key : List Nat) (hk : key.length = 16) : (wordsN key).length = 176 := ws_len key hk 40
theorem wordsN_byt (key : List Nat) (hk : Byt key) : Byt (wordsN key) := (ws_byt key hk 40).1
theorem wordsN_eq (key : List Nat) : wordsN key = (ws key 40).1 := rfl
attribute [irreducible] wordsN
end Go.Proofs.YtikmhlbpefednaaGreat
