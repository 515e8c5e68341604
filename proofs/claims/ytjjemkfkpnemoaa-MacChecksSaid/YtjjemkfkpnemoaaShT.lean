/- sha's take: a block into the words. No condition. -/
import Derived.Test.YtjjemkfkpnemoaaShM
namespace Go.Proofs.Ytjjemkfkpnemoaa
open Go.RowKit

theorem zero5 : ∀ w, (zeroValue 89).run Try.prog w = .ok (.agg (ivA .u32 (zeros 5))) w := fun w => by kernel_rfl
theorem info5 : (Try.prog.info? 89).map (·.size) = some 5 := by kernel_rfl
def W5 (H : List Nat) : Prop := H.length = 5 ∧ ∀ i, H.getD i 0 < 4294967296
theorem vstep_w5 (x t : Nat) (V : List Nat) (h : W5 V) : W5 (vstep x t V) := by
  refine ⟨rfl, fun i => ?_⟩
  unfold vstep
  rcases (show i = 0 ∨ i = 1 ∨ i = 2 ∨ i = 3 ∨ i = 4 ∨ 5 ≤ i by omega) with rfl | rfl | rfl | rfl | rfl | hi
  · exact Nat.mod_lt _ (by decide)
  · exact h.2 0
  · exact rol_lt _ _ (h.2 1)
  · exact h.2 2
  · exact h.2 3
  · rw [List.getD_eq_getElem?_getD, List.getElem?_eq_none (by simpa using hi)]; decide
theorem vt_w5 (W H : List Nat) (h : W5 H) : ∀ t, W5 (vt W H t)
  | 0 => h
  | t + 1 => vstep_w5 _ _ _ (vt_w5 W H h t)
theorem addH_w5 (V H : List Nat) : W5 (addH V H) := by
  refine ⟨rfl, fun i => ?_⟩
  unfold addH
  rcases (show i = 0 ∨ i = 1 ∨ i = 2 ∨ i = 3 ∨ i = 4 ∨ 5 ≤ i by omega) with rfl | rfl | rfl | rfl | rfl | hi
  · exact Nat.mod_lt _ (by decide)
  · exact Nat.mod_lt _ (by decide)
  · exact Nat.mod_lt _ (by decide)
  · exact Nat.mod_lt _ (by decide)
  · exact Nat.mod_lt _ (by decide)
  · rw [List.getD_eq_getElem?_getD, List.getElem?_eq_none (by simpa using hi)]; decide

/-- What memory holds while a block is taken. -/
structure Tk (w wx : World) (H V : List Nat) : Prop where
  h : wx.heap[w.heap.size]? = some (.cells (ivA .u32 H) 89 (0, 0))
  r : wx.heap[w.heap.size + 1]? = some (.cells (ivA .u32 (zeros 5)) 89 (0, 0))
  v : wx.heap[w.heap.size + 2]? = some (.cells (ivA .u32 V) 89 (0, 0))
  b : Below w.heap.size w wx
theorem Tk.still {w wx wy : World} {H V : List Nat} (h : Tk w wx H V) (hs : Still [] wx wy) : Tk w wy H V :=
  ⟨hp_st hs h.h (by simp), hp_st hs h.r (by simp), hp_st hs h.v (by simp), h.b.trans (hs.below h.b.size (by simp))⟩
theorem Tk.row {w wx : World} {H V : List Nat} (h : Tk w wx H V) (V' : List Nat) : Tk w (wx.setRow (w.heap.size + 2) (ivA .u32 V')) H V' :=
  ⟨(hp_rowo _ (by omega)).trans h.h, (hp_rowo _ (by omega)).trans h.r, hp_row h.v _, Below.setRow h.b (by omega) _⟩
theorem Tk.set {w wx : World} {H V : List Nat} (h : Tk w wx H V) (i x : Nat) : Tk w (wx.setCell ⟨w.heap.size + 2, i, none⟩ (.int .u32 (x : Nat))) H (V.set i x) :=
  ⟨(hp_oth (by omega)).trans h.h, (hp_oth (by omega)).trans h.r, iv_set h.v i x, Below.set3 h.b (by omega) _⟩

/-- The sums under way. -/
def ah (V H : List Nat) : Nat → List Nat
  | 0 => V
  | i + 1 => (ah V H i).set i ((V.getD i 0 + H.getD i 0) % 4294967296)
theorem ah_len (V H : List Nat) (hV : V.length = 5) : ∀ i, (ah V H i).length = 5
  | 0 => hV
  | i + 1 => by rw [ah, List.length_set, ah_len V H hV i]
theorem ah_get (V H : List Nat) : ∀ i j, i ≤ j → (ah V H i).getD j 0 = V.getD j 0
  | 0, _, _ => rfl
  | i + 1, j, h => by
    rw [ah, List.getD_eq_getElem?_getD, List.getElem?_set_ne (by omega), ← List.getD_eq_getElem?_getD]
    exact ah_get V H i j (by omega)
theorem ah_end (V H : List Nat) (hV : V.length = 5) : ah V H 5 = addH V H := by
  match V, hV with
  | [a, b, c, d, e], _ => rfl

set_option maxRecDepth 100000 in
set_option maxHeartbeats 8000000 in
theorem take_any (H : List Nat) (hH : W5 H) (v : Value) (len : Nat) (bl : List Nat) (h64 : 64 ≤ len) (w : World) (hv : SB w v len bl) :
    Calls Try.prog 65 #[.agg (ivA .u32 H), v] w fun e w' => e = .returned (.agg (ivA .u32 (takeH H bl))) ∧ Below w.heap.size w w' := by
  have hwd := Lib.hid (shawords_any v len bl h64)
  have hwl := Lib.hid (wl_lt bl hv.2.1 80)
  have hWl : Hid ((wl bl 80).length = 80) := wl_len bl 80
  have hvt := Lib.hid (vt_w5 (wl bl 80) H hH)
  have hT : Hid (takeH H bl = addH (vt (wl bl 80) H 80) H) := rfl
  generalize takeH H bl = TH at *
  generalize wl bl 80 = W at *
  have hHl := Lib.hid hH.1
  replace hv := Lib.hid hv
  replace hH := Lib.hid hH
  have z5 : Hid ((zeros 5).length = 5) := zeros_len 5
  have A0 : Hid (((w.alloc (.cells (ivA .u32 H) 89)).alloc (.cells (ivA .u32 (zeros 5)) 89)).heap[w.heap.size]? = some (.cells (ivA .u32 H) 89 (0, 0))) := by rw [Hid, hp_old _ _ _ (by simp), hp_new _ _ _ rfl]
  have A1 : Hid (((w.alloc (.cells (ivA .u32 H) 89)).alloc (.cells (ivA .u32 (zeros 5)) 89)).heap[w.heap.size + 1]? = some (.cells (ivA .u32 (zeros 5)) 89 (0, 0))) := by rw [Hid, hp_new _ _ _ (by simp)]
  have L0 : Hid (Below w.heap.size w ((w.alloc (.cells (ivA .u32 H) 89)).alloc (.cells (ivA .u32 (zeros 5)) 89))) := ((Below.refl _ _).alloc (Nat.le_refl _) _).alloc (by simp) _
  have Z0 : Hid (((w.alloc (.cells (ivA .u32 H) 89)).alloc (.cells (ivA .u32 (zeros 5)) 89)).heap.size = w.heap.size + 2) := by simp [Hid]
  go_enter Try.func65, Try.ntmps65
  go_wp2_with (first | (refine wpList_alloc_of rfl 89 rfl _ zero5 ?_) | (refine wpList_load_row rfl 89 _ rfl _ rfl _ _ _ _ A0.out Try.underlying89 rfl (by rw [info5, ivA_size, hHl.out]) ?_) | (refine wpList_store_new rfl 89 _ _ rfl _ (ivA .u32 H) _ rfl rfl (by rw [info5, ivA_size, hHl.out]) (by rw [ivA_size, ivA_size, z5.out, hHl.out]) (ivA_one _ _) ?_))
  have K0 : Hid (Tk w (((w.alloc (.cells (ivA .u32 H) 89)).alloc (.cells (ivA .u32 (zeros 5)) 89)).alloc (.cells (ivA .u32 H) 89)) H H) :=
    ⟨hp_keep A0.out _, hp_keep A1.out _, hp_new _ _ _ (by rw [Z0.out]), L0.out.alloc (by rw [Z0.out]; omega) _⟩
  generalize ((w.alloc (.cells (ivA .u32 H) 89)).alloc (.cells (ivA .u32 (zeros 5)) 89)).alloc (.cells (ivA .u32 H) 89) = w3 at *
  clear A0 A1 L0 Z0
  refine (hwd.out _ (hv.out.below K0.out.b (Nat.le_refl _))).mono ?_
  rintro e w4 ⟨rfl, hb4⟩
  replace K0 := Lib.hid (K0.out.still (Still.of_below hb4))
  clear hb4
  go_wp2_with fail
  go_loopg [15] 80 (fun m i wx => ∃ t, m = 80 - t ∧ t ≤ 80 ∧ i = .int .i64 (t : Nat) ∧ Hid (Tk w wx H (vt W H t)))
  case atStart => exact ⟨0, by omega, by omega, rfl, K0⟩
  case round =>
    clear K0
    obtain ⟨t, rfl, ht, rfl, K0⟩ := hrel
    have hV := hvt.out t
    by_cases ht80 : t < 80
    · have hidx : ∀ wy, (Instr.index 102 (.agg (ivA .u32 W)) (.int .i64 (t : Nat))).run Try.prog wy = .ok (.int .u32 (W.getD t 0 : Nat)) wy := fun wy => run_index_iv _ 66 80 .u32 W Try.underlying102 Try.underlying66 (by kernel_rfl) hWl.out t ht80 wy
      have hVl := Lib.hid hV.1
      have b0 := Lib.hid (hV.2 0)
      have b1 := Lib.hid (hV.2 1)
      have b2 := Lib.hid (hV.2 2)
      have b3 := Lib.hid (hV.2 3)
      have hx := Lib.hid (hwl.out t)
      have hnx : Hid (vt W H (t + 1) = [(rol ((vt W H t).getD 0 0) 5 + fmix t ((vt W H t).getD 1 0) ((vt W H t).getD 2 0) ((vt W H t).getD 3 0) + (vt W H t).getD 4 0 + kmix t + W.getD t 0) % 4294967296, (vt W H t).getD 0 0, rol ((vt W H t).getD 1 0) 30, (vt W H t).getD 2 0, (vt W H t).getD 3 0]) := rfl
      have g : ∀ i, i < 5 → wr.cell? ⟨w.heap.size + 2, i, none⟩ = some (.int .u32 ((vt W H t).getD i 0 : Nat)) := fun i hi => iv_cell K0.out.v i (by rw [hVl.out]; exact hi)
      have g0 := g 0 (by omega)
      have g1 := g 1 (by omega)
      have g2 := g 2 (by omega)
      have g3 := g 3 (by omega)
      have g4 := g 4 (by omega)
      clear g hV
      generalize hVV : vt W H (t + 1) = V' at *
      replace hVV := Lib.hid hVV
      generalize vt W H t = V at *
      have hmx := Lib.hid (mix_two t (V.getD 1 0) (V.getD 2 0) (V.getD 3 0) ht80 b1.out b2.out b3.out)
      have hr5 := Lib.hid (rol_any (V.getD 0 0) 5 b0.out (.inr (.inl rfl)))
      have hr30 := Lib.hid (rol_any (V.getD 1 0) 30 b1.out (.inr (.inr rfl)))
      generalize V.getD 0 0 = v0 at *
      generalize V.getD 1 0 = v1 at *
      generalize V.getD 2 0 = v2 at *
      generalize V.getD 3 0 = v3 at *
      generalize V.getD 4 0 = v4 at *
      generalize W.getD t 0 = x at *
      generalize rol v0 5 = r5 at *
      generalize rol v1 30 = r30 at *
      generalize fmix t v1 v2 v3 = f at *
      generalize kmix t = k at *
      go_wp2_with fail
      refine (hmx.out _).mono ?_
      rintro e w' ⟨rfl, rfl⟩
      go_wp2_with fail
      have l0 : ∀ x : LaterS [] wr, x.now.cell? ⟨w.heap.size + 2, 0, none⟩ = some (.int .u32 (v0 : Nat)) := fun x => x.cell g0 (by simp)
      have l1 : ∀ x : LaterS [] wr, x.now.cell? ⟨w.heap.size + 2, 1, none⟩ = some (.int .u32 (v1 : Nat)) := fun x => x.cell g1 (by simp)
      have l2 : ∀ x : LaterS [] wr, x.now.cell? ⟨w.heap.size + 2, 2, none⟩ = some (.int .u32 (v2 : Nat)) := fun x => x.cell g2 (by simp)
      have l3 : ∀ x : LaterS [] wr, x.now.cell? ⟨w.heap.size + 2, 3, none⟩ = some (.int .u32 (v3 : Nat)) := fun x => x.cell g3 (by simp)
      have l4 : ∀ x : LaterS [] wr, x.now.cell? ⟨w.heap.size + 2, 4, none⟩ = some (.int .u32 (v4 : Nat)) := fun x => x.cell g4 (by simp)
      refine wp_region_gg [] [] [] (by kernel_rfl) ?_
      refine hoist [] [] (a1 := ?_) 0 rfl (by kernel_rfl) (.inl ⟨rfl, rfl⟩) rfl rfl rfl (fun x K hK => ?_) ?_
      rotate_left
      · go_big_quiet_op
        exact hK
      refine hoist [] [] (a1 := ?_) 1 rfl (by kernel_rfl) (.inl ⟨rfl, rfl⟩) rfl rfl rfl (fun x K hK => ?_) ?_
      rotate_left
      · go_big_quiet_op
        exact hK
      refine hoist_call [] [] (a1 := ?_) 2 rfl (by kernel_rfl) (.inl ⟨rfl, rfl⟩) rfl rfl rfl (fun x K hK => ?_) ?_
      rotate_left
      · go_big_quiet_op
        apply Exists.intro
        refine ⟨fun y => ?_, ?_⟩
        · exact Calls.laterS_same ((hr5.out _).mono fun e w' ⟨h, h'⟩ => ⟨h, h'.symm⟩)
        · exact hK
      refine hoist [] [] (a1 := ?_) 3 rfl (by kernel_rfl) (.inl ⟨rfl, rfl⟩) rfl rfl rfl (fun x K hK => ?_) ?_
      rotate_left
      · go_big_quiet_op
        exact hK
      refine hoist [] [] (a1 := ?_) 4 rfl (by kernel_rfl) (.inl ⟨rfl, rfl⟩) rfl rfl rfl (fun x K hK => ?_) ?_
      rotate_left
      · go_big_quiet_op
        exact hK
      refine hoist [] [] (a1 := ?_) 5 rfl (by kernel_rfl) (.inl ⟨rfl, rfl⟩) rfl rfl rfl (fun x K hK => ?_) ?_
      rotate_left
      · go_big_quiet_op
        exact hK
      refine hoist [] [] (a1 := ?_) 6 rfl (by kernel_rfl) (.inl ⟨rfl, rfl⟩) rfl rfl rfl (fun x K hK => ?_) ?_
      rotate_left
      · go_big_quiet_op
        exact hK
      refine hoist [] [] (a1 := ?_) 7 rfl (by kernel_rfl) (.inl ⟨rfl, rfl⟩) rfl rfl rfl (fun x K hK => ?_) ?_
      rotate_left
      · go_big_quiet_op
        exact hK
      refine hoist [] [] (a1 := ?_) 8 rfl (by kernel_rfl) (.inl ⟨rfl, rfl⟩) rfl rfl rfl (fun x K hK => ?_) ?_
      rotate_left
      · go_big_quiet_op
        exact hK
      refine hoist [] [] (a1 := ?_) 9 rfl (by kernel_rfl) (.inl ⟨rfl, rfl⟩) rfl rfl rfl (fun x K hK => ?_) ?_
      rotate_left
      · go_big_quiet_op
        exact hK
      refine hoist [] [] (a1 := ?_) 10 rfl (by kernel_rfl) (.inl ⟨rfl, rfl⟩) rfl rfl rfl (fun x K hK => ?_) ?_
      rotate_left
      · go_big_quiet_op
        exact hK
      refine hoist [] [] (a1 := ?_) 11 rfl (by kernel_rfl) (.inl ⟨rfl, rfl⟩) rfl rfl rfl (fun x K hK => ?_) ?_
      rotate_left
      · go_big_quiet_op
        exact hK
      refine hoist [] [] (a1 := ?_) 12 rfl (by kernel_rfl) (.inl ⟨rfl, rfl⟩) rfl rfl rfl (fun x K hK => ?_) ?_
      rotate_left
      · go_big_quiet_op
        exact hK
      refine done (by kernel_rfl) (fun xr => ?_)
      have hs : (((r5 : Int) + (f : Int) + (v4 : Int) + (k : Int)) % 4294967296 + (x : Int)) % 4294967296 = (((r5 + f + v4 + k + x) % 4294967296 : Nat) : Int) := by omega
      rw [hs]
      clear hs
      generalize (r5 + f + v4 + k + x) % 4294967296 = sm at *
      have K1 := Lib.hid (K0.out.still xr.ok)
      replace g0 := xr.cell g0 (by simp)
      replace g1 := xr.cell g1 (by simp)
      replace g2 := xr.cell g2 (by simp)
      replace g3 := xr.cell g3 (by simp)
      clear l0 l1 l2 l3 l4 g4 K0 hidx
      generalize xr.now = wy at *
      clear xr
      go_wp2_with fail
      have l0 : ∀ x : LaterS [] wy, x.now.cell? ⟨w.heap.size + 2, 0, none⟩ = some (.int .u32 (v0 : Nat)) := fun x => x.cell g0 (by simp)
      have l1 : ∀ x : LaterS [] wy, x.now.cell? ⟨w.heap.size + 2, 1, none⟩ = some (.int .u32 (v1 : Nat)) := fun x => x.cell g1 (by simp)
      have l2 : ∀ x : LaterS [] wy, x.now.cell? ⟨w.heap.size + 2, 2, none⟩ = some (.int .u32 (v2 : Nat)) := fun x => x.cell g2 (by simp)
      have l3 : ∀ x : LaterS [] wy, x.now.cell? ⟨w.heap.size + 2, 3, none⟩ = some (.int .u32 (v3 : Nat)) := fun x => x.cell g3 (by simp)
      refine wp_region_gg [] [] [11] (by kernel_rfl) ?_
      refine hoist [] [] (a1 := ?_) 0 rfl (by kernel_rfl) (.inl ⟨rfl, rfl⟩) rfl rfl rfl (fun x K hK => ?_) ?_
      rotate_left
      · go_big_quiet_op
        exact hK
      refine hoist [] [] (a1 := ?_) 1 rfl (by kernel_rfl) (.inl ⟨rfl, rfl⟩) rfl rfl rfl (fun x K hK => ?_) ?_
      rotate_left
      · go_big_quiet_op
        exact hK
      refine hoist [] [] (a1 := ?_) 2 rfl (by kernel_rfl) (.inl ⟨rfl, rfl⟩) rfl rfl rfl (fun x K hK => ?_) ?_
      rotate_left
      · go_big_quiet_op
        exact hK
      refine hoist [] [] (a1 := ?_) 3 rfl (by kernel_rfl) (.inl ⟨rfl, rfl⟩) rfl rfl rfl (fun x K hK => ?_) ?_
      rotate_left
      · go_big_quiet_op
        exact hK
      refine hoist [] [] (a1 := ?_) 4 rfl (by kernel_rfl) (.inl ⟨rfl, rfl⟩) rfl rfl rfl (fun x K hK => ?_) ?_
      rotate_left
      · go_big_quiet_op
        exact hK
      refine hoist_call [] [] (a1 := ?_) 5 rfl (by kernel_rfl) (.inl ⟨rfl, rfl⟩) rfl rfl rfl (fun x K hK => ?_) ?_
      rotate_left
      · go_big_quiet_op
        apply Exists.intro
        refine ⟨fun y => ?_, ?_⟩
        · exact Calls.laterS_same ((hr30.out _).mono fun e w' ⟨h, h'⟩ => ⟨h, h'.symm⟩)
        · exact hK
      refine hoist [] [] (a1 := ?_) 6 rfl (by kernel_rfl) (.inl ⟨rfl, rfl⟩) rfl rfl rfl (fun x K hK => ?_) ?_
      rotate_left
      · go_big_quiet_op
        exact hK
      refine hoist [] [] (a1 := ?_) 7 rfl (by kernel_rfl) (.inl ⟨rfl, rfl⟩) rfl rfl rfl (fun x K hK => ?_) ?_
      rotate_left
      · go_big_quiet_op
        exact hK
      refine hoist [] [] (a1 := ?_) 8 rfl (by kernel_rfl) (.inl ⟨rfl, rfl⟩) rfl rfl rfl (fun x K hK => ?_) ?_
      rotate_left
      · go_big_quiet_op
        exact hK
      refine hoist [] [] (a1 := ?_) 9 rfl (by kernel_rfl) (.inl ⟨rfl, rfl⟩) rfl rfl rfl (fun x K hK => ?_) ?_
      rotate_left
      · go_big_quiet_op
        exact hK
      refine hoist [] [] (a1 := ?_) 10 rfl (by kernel_rfl) (.inl ⟨rfl, rfl⟩) rfl rfl rfl (fun x K hK => ?_) ?_
      rotate_left
      · go_big_quiet_op
        exact hK
      refine tail 11 rfl (by kernel_rfl) rfl (fun xr => ?_)
      simp only [List.drop_succ_cons, List.drop_zero]
      have K2 := Lib.hid (K1.out.still xr.ok)
      clear l0 l1 l2 l3 g0 g1 g2 g3 K1
      rw [show (#[Value.int .u32 (sm : Nat), .int .u32 (v0 : Nat), .int .u32 (r30 : Nat), .int .u32 (v2 : Nat), .int .u32 (v3 : Nat)] : Array Value) = ivA .u32 [sm, v0, r30, v2, v3] from rfl]
      have hv5 : Hid (V'.length = 5) := by rw [Hid, hnx.out]; rfl
      rw [← hnx.out]
      go_wp2_with (refine wpList_store_row rfl 89 _ _ rfl _ (ivA .u32 V') rfl rfl _ _ K2.out.v (by rw [info5, ivA_size, hv5.out]) (by rw [ivA_size, ivA_size, hVl.out, hv5.out]) (ivA_one _ _) ?_)
      go_roundg (80 - (t + 1))
      case measure => omega
      case rel => exact ⟨t + 1, rfl, by omega, by go_num, by rw [hVV.out]; exact K2.out.row V'⟩
    · obtain rfl : t = 80 := by omega
      have hVl := Lib.hid hV.1
      have hVb := Lib.hid hV.2
      have hHb := Lib.hid hH.out.2
      clear hV hvt
      generalize vt W H 80 = V at *
      go_wp2_with fail
      go_loopg [54] 5 (fun m i wx => ∃ j, m = 5 - j ∧ j ≤ 5 ∧ i = .int .i64 (j : Nat) ∧ Hid (Tk w wx H (ah V H j)))
      case atStart => exact ⟨0, by omega, by omega, rfl, K0⟩
      case round =>
        clear K0
        obtain ⟨j, rfl, hj, rfl, K0⟩ := hrel
        have hal := Lib.hid (ah_len V H hVl.out j)
        by_cases hj5 : j < 5
        · have hnx : Hid ((ah V H j).set j ((V.getD j 0 + H.getD j 0) % 4294967296) = ah V H (j + 1)) := rfl
          have l0 : ∀ x : LaterS [] wr, x.now.cell? ⟨w.heap.size + 2, j, none⟩ = some (.int .u32 (V.getD j 0 : Nat)) := fun x => by
            rw [x.cell (iv_cell K0.out.v j (by rw [hal.out]; exact hj5)) (by simp), ah_get V H j j (Nat.le_refl _)]
          have l1 : ∀ x : LaterS [] wr, x.now.cell? ⟨w.heap.size, j, none⟩ = some (.int .u32 (H.getD j 0 : Nat)) := fun x => x.cell (iv_cell K0.out.h j (by rw [hHl.out]; exact hj5)) (by simp)
          generalize V.getD j 0 = p at *
          generalize H.getD j 0 = q at *
          go_wp2_with fail
          refine wp_region_gg [] [] [7] (by kernel_rfl) ?_
          refine hoist [] [] (a1 := ?_) 0 rfl (by kernel_rfl) (.inl ⟨rfl, rfl⟩) rfl rfl rfl (fun x K hK => ?_) ?_
          rotate_left
          · go_big_quiet_op
            exact hK
          refine hoist [] [] (a1 := ?_) 1 rfl (by kernel_rfl) (.inl ⟨rfl, rfl⟩) rfl rfl rfl (fun x K hK => ?_) ?_
          rotate_left
          · go_big_quiet_op
            exact hK
          refine hoist [] [] (a1 := ?_) 2 rfl (by kernel_rfl) (.inl ⟨rfl, rfl⟩) rfl rfl rfl (fun x K hK => ?_) ?_
          rotate_left
          · go_big_quiet_op
            exact hK
          refine hoist [] [] (a1 := ?_) 3 rfl (by kernel_rfl) (.inl ⟨rfl, rfl⟩) rfl rfl rfl (fun x K hK => ?_) ?_
          rotate_left
          · go_big_quiet_op
            exact hK
          refine hoist [] [] (a1 := ?_) 4 rfl (by kernel_rfl) (.inl ⟨rfl, rfl⟩) rfl rfl rfl (fun x K hK => ?_) ?_
          rotate_left
          · go_big_quiet_op
            exact hK
          refine hoist [] [] (a1 := ?_) 5 rfl (by kernel_rfl) (.inl ⟨rfl, rfl⟩) rfl rfl rfl (fun x K hK => ?_) ?_
          rotate_left
          · go_big_quiet_op
            exact hK
          refine hoist [] [] (a1 := ?_) 6 rfl (by kernel_rfl) (.inl ⟨rfl, rfl⟩) rfl rfl rfl (fun x K hK => ?_) ?_
          rotate_left
          · go_big_quiet_op
            exact hK
          refine tail 7 rfl (by kernel_rfl) rfl (fun xr => ?_)
          simp only [List.drop_succ_cons, List.drop_zero]
          have hs : ((p : Int) + (q : Int)) % 4294967296 = (((p + q) % 4294967296 : Nat) : Int) := by omega
          rw [hs]
          clear hs
          generalize (p + q) % 4294967296 = z at *
          have K1 := Lib.hid (K0.out.still xr.ok)
          have c1 := iv_cell K1.out.v j (by rw [hal.out]; exact hj5)
          have f1 := hp_frz K1.out.v j
          have K2 := Lib.hid (K1.out.set j z)
          rw [hnx.out] at K2
          clear l0 l1 K0 K1
          go_wp2_with fail
          go_roundg (5 - (j + 1))
          case measure => omega
          case rel => exact ⟨j + 1, rfl, by omega, by go_num, K2⟩
        · obtain rfl : j = 5 := by omega
          rw [ah_end V H hVl.out, ← hT.out] at K0
          have hTl : Hid (TH.length = 5) := by rw [Hid, hT.out]; rfl
          go_wp2_with (first | (refine wpList_load_row rfl 89 _ rfl _ rfl _ _ _ _ K0.out.v Try.underlying89 rfl (by rw [info5, ivA_size, hTl.out]) ?_) | (refine wpList_store_row rfl 89 _ _ rfl _ _ rfl rfl _ _ K0.out.r (by rw [info5, ivA_size, hTl.out]) (by rw [ivA_size, ivA_size, z5.out, hTl.out]) (ivA_one _ _) ?_))
          exact bodyPost_ret (results_cell_row (p := 4) rfl _ _ (w.heap.size + 1) _ _ _ _ rfl (hp_row K0.out.r _) Try.underlying89 rfl (by rw [info5, ivA_size, hTl.out])) rfl ⟨rfl, Below.setRow K0.out.b (by omega) _⟩
end Go.Proofs.Ytjjemkfkpnemoaa
