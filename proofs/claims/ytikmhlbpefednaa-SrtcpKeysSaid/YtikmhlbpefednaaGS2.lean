/- srtp: New, Peek, what a way has used. No condition but the sizes'. window: Mark. No condition but the sizes'. srtp: the likely index of a packet, and whether it may be taken in. No condition but the sizes'. srtp: may bytes be taken in? No condition but the sizes'. -/
import Derived.Test.YtikmhlbpefednaaGS1
import Derived.Test.YtikmhlbpefednaaGKy
import Derived.Test.YtikmhlbpefednaaStp
import Derived.Test.YtikmhlbpefednaaGTb
namespace Go.Proofs.Ytikmhlbpefednaa
open Go.RowKit

theorem foldl_ivA (K : List Nat) (B : Array Value) (hK : K.length = 50) : (ivA .u8 K).zipIdx.foldl (fun cs (c, j) => cs.setIfInBounds (0 + j) c) (ivA .u8 (zeros 50) ++ B) = ivA .u8 K ++ B := by
  have f : ∀ (V z : Array Value) (off : Nat), V.zipIdx.foldl (fun cs (c, j) => cs.setIfInBounds (off + j) c) z = (V.toList.zipIdx 0).foldl (fun cs (x : Value × Nat) => cs.setIfInBounds (off + x.2) x.1) z := fun V z off => by
    rw [← Array.foldl_toList, Array.toList_zipIdx]
  rw [f]
  obtain ⟨g1, g2⟩ := Great.foldl_set 0 (ivA .u8 K).toList 0 (ivA .u8 (zeros 50) ++ B)
  refine Array.ext_getElem? fun k => ?_
  rw [g2 k]
  have hs : (ivA .u8 K).toList.length = 50 := by rw [Array.length_toList, ivA_size, hK]
  have hz : (ivA .u8 (zeros 50) ++ B).size = 50 + B.size := by rw [Array.size_append, ivA_size, zeros_len]
  rw [hs, hz]
  by_cases hk : k < 50
  · rw [if_pos (by omega), Array.getElem?_append_left (by rw [ivA_size, hK]; exact hk), Array.getElem?_toList]
    congr 1
  · rw [if_neg (by omega), Array.getElem?_append_right (by rw [ivA_size, zeros_len]; omega), Array.getElem?_append_right (by rw [ivA_size, hK]; omega), ivA_size, ivA_size, zeros_len, hK]
theorem way_fold (K : List Nat) (hK : K.length = 50) : Array.foldl (fun (cs : Array Value) (x : Value × Nat) => cs.setIfInBounds x.snd x.fst) #[Value.int .u8 0, Value.int .u8 0, Value.int .u8 0, Value.int .u8 0, Value.int .u8 0, Value.int .u8 0, Value.int .u8 0, Value.int .u8 0, Value.int .u8 0, Value.int .u8 0, Value.int .u8 0, Value.int .u8 0, Value.int .u8 0, Value.int .u8 0, Value.int .u8 0, Value.int .u8 0, Value.int .u8 0, Value.int .u8 0, Value.int .u8 0, Value.int .u8 0, Value.int .u8 0, Value.int .u8 0, Value.int .u8 0, Value.int .u8 0, Value.int .u8 0, Value.int .u8 0, Value.int .u8 0, Value.int .u8 0, Value.int .u8 0, Value.int .u8 0, Value.int .u8 0, Value.int .u8 0, Value.int .u8 0, Value.int .u8 0, Value.int .u8 0, Value.int .u8 0, Value.int .u8 0, Value.int .u8 0, Value.int .u8 0, Value.int .u8 0, Value.int .u8 0, Value.int .u8 0, Value.int .u8 0, Value.int .u8 0, Value.int .u8 0, Value.int .u8 0, Value.int .u8 0, Value.int .u8 0, Value.int .u8 0, Value.int .u8 0, .int .i64 0, .int .i64 0, .map none] (ivA .u8 K).zipIdx 0 50 = ivA .u8 K ++ #[.int .i64 0, .int .i64 0, .map none] := by
  have h := foldl_ivA K #[.int .i64 0, .int .i64 0, .map none] hK
  have hs : (ivA .u8 K).zipIdx.size = 50 := by rw [Array.size_zipIdx, ivA_size, hK]
  rw [hs] at h
  simp only [Nat.zero_add] at h
  exact h
theorem way_cells (K : List Nat) (hK : K.length = 50) (lim : Int) (m : Value) : ((ivA .u8 K ++ #[Value.int .i64 0, .int .i64 0, .map none]).setIfInBounds 50 (.int .i64 lim)).setIfInBounds 52 m = ivA .u8 K ++ #[.int .i64 lim, .int .i64 0, m] := by
  have st : ∀ (a b d x : Value), (ivA .u8 K ++ #[a, b, d]).setIfInBounds 50 x = ivA .u8 K ++ #[x, b, d] := fun a b d x => by
    apply Array.ext'
    simp only [Array.toList_setIfInBounds, Array.toList_append]
    rw [List.set_append_right _ _ (by rw [Array.length_toList, ivA_size, hK]; omega), Array.length_toList, ivA_size, hK]
    rfl
  have st2 : ∀ (a b d x : Value), (ivA .u8 K ++ #[a, b, d]).setIfInBounds 52 x = ivA .u8 K ++ #[a, b, x] := fun a b d x => by
    apply Array.ext'
    simp only [Array.toList_setIfInBounds, Array.toList_append]
    rw [List.set_append_right _ _ (by rw [Array.length_toList, ivA_size, hK]; omega), Array.length_toList, ivA_size, hK]
    rfl
  rw [st, st2]
theorem strm_byl (W : List Nat) (x n : Nat) (hW : Byt W) : ByL (strm W x n) := by
  intro y hy
  obtain ⟨i, _, rfl⟩ := List.mem_map.1 hy
  exact blockN_byt hW (putB_byt' 16 (x + i / 16)) (i % 16)
theorem drv_byl (key salt : List Nat) (lb n : Nat) (hk : ByL key) : ByL (drv key salt lb n) := strm_byl _ _ _ (wordsN_byt key (byt_of hk))
theorem keysN_byl (key salt : List Nat) (f : Nat) (hk : ByL key) : ByL (keysN key salt f) := by
  unfold keysN
  exact (drv_byl key salt f 16 hk).append ((drv_byl key salt (f + 1) 20 hk).append (drv_byl key salt (f + 2) 14 hk))
set_option maxRecDepth 100000 in
set_option maxHeartbeats 8000000 in
theorem way_new (key salt : List Nat) (lim : Int) (hk : key.length = 16) (hkb : ByL key) (hs : salt.length = 14) (hsb : ByL salt) (w : World) :
    Calls Try.prog 10 #[.agg (ivA .u8 (key ++ salt)), .int .i64 lim] w fun e w' => ∃ g gm, e = .returned (.pointer (some ⟨g, 0, none⟩)) ∧ w.heap.size ≤ g ∧ w.heap.size ≤ gm ∧ WayV w' g (keysN key salt 0) lim 0 gm [] ∧ BW w w' := by
  have ck := fun wz => Lib.hid (krtp_ok key salt hk hkb hs hsb wz)
  have hl := Lib.hid (keysN_len key salt 0)
  have hKl : Hid ((key ++ salt).length = 30) := by simp [Hid, hk, hs]
  have hby : Hid (ByL (keysN key salt 0)) := keysN_byl key salt 0 hkb
  generalize keysN key salt 0 = R at *
  generalize key ++ salt = K at *
  have A1 := Lib.hid (AvB.new w 35 K)
  have B1 := Lib.hid (show BW w (w.alloc (.cells (ivA .u8 K) 35)) from (BW.refl w).alloc)
  go_enter Try.func10, Try.ntmps10
  go_upto_region 1 with (fail)
  generalize w.alloc (.cells (ivA .u8 K) 35) = w1 at *
  generalize w.heap.size = g1 at *
  go_wp2_with (first | (refine ldA ar30 rfl rfl rfl A1.out hKl.out ?_))
  refine Calls.mono (ck w1).out ?_
  rintro e w2 ⟨rfl, hb⟩
  replace hb : BW w1 w2 := BW.of hb
  dsimp only
  have hmk : ∀ W : World, (Instr.makeMap 81 none).run Try.prog W = .ok (.map (some W.heap.size)) (W.alloc (.map #[] 0)) := fun W => rfl
  have hsz : (ivA .u8 R).size = 50 := by rw [ivA_size, hl.out]
  obtain ⟨F, hFe⟩ : ∃ F, ivA .u8 R ++ #[.int .i64 0, .int .i64 0, .map none] = F := ⟨_, rfl⟩
  have hfo := (way_fold R hl.out).trans hFe
  have hFs : F.size = 53 := by rw [← hFe, Array.size_append, hsz]; rfl
  have hX : Hid ((F.setIfInBounds 50 (.int .i64 lim)).setIfInBounds 52 (.map (some w2.heap.size)) = wayC R lim 0 w2.heap.size) := by
    show _ = _
    rw [← hFe, way_cells R hl.out]
    rfl
  replace hFe := Lib.hid hFe
  obtain ⟨X, hXe⟩ : ∃ X, (F.setIfInBounds 50 (.int .i64 lim)).setIfInBounds 52 (.map (some w2.heap.size)) = X := ⟨_, rfl⟩
  rw [hXe] at hX
  have BM : BW w2 (w2.alloc (.map #[] 0)) := (BW.refl _).alloc
  have M3 := Lib.hid (MapIn.made w2)
  have BN : BW (w2.alloc (.map #[] 0)) ((w2.alloc (.map #[] 0)).alloc (.cells X 83)) := (BW.refl _).alloc
  have H4 := Lib.hid (hp_new (w2.alloc (.map #[] 0)) (.cells X 83) (w2.heap.size + 1) (by simp))
  have B4 := Lib.hid (((B1.out.trans hb).trans BM).trans BN)
  have hz := Lib.hid (B1.out.trans hb).size
  have M4 := Lib.hid (M3.out.still (BN.still []) (by simp))
  clear hb B1 A1 ck M3
  replace BM := Lib.hid BM
  replace BN := Lib.hid BN
  go_wp2_with fail
  go_ret
  exact ⟨w2.heap.size + 1, rfl, by have := hz.out; omega, w2.heap.size, hz.out, ⟨by rw [← hX.out]; exact H4.out, hl.out, hby.out, M4.out⟩, B4.out⟩
set_option maxRecDepth 100000 in
set_option maxHeartbeats 8000000 in
theorem way_spent (g : Nat) (K : List Nat) (lim : Int) (used gm : Nat) (M : List (Nat × Nat × Nat)) (w : World) (hW : WayV w g K lim used gm M) :
    Calls Try.prog 27 #[.pointer (some ⟨g, 0, none⟩)] w fun e w' => e = .returned (.bool (decide (lim ≤ (used : Int)))) ∧ BW w w' := by
  have z0 := hW.lim
  have z1 := hW.used
  clear hW
  have l0 : ∀ y : LaterS [] w, y.now.cell? _ = _ := fun y => y.bw.cell z0
  have l1 : ∀ y : LaterS [] w, y.now.cell? _ = _ := fun y => y.bw.cell z1
  clear z0 z1
  go_enter Try.func27, Try.ntmps27
  go_upto_region 1 with (fail)
  refine wp_region_gg [] [] [] (by kernel_rfl) ?_
  refine hoist [] [] (a1 := ?_) 0 rfl (by kernel_rfl) (.inl ⟨rfl, rfl⟩) rfl rfl rfl (fun x K hK => ?_) ?_
  rotate_left
  · go_big_quiet_op
    exact hK
  refine hoist [] [] (a1 := ?_) 1 rfl (by kernel_rfl) (.inl ⟨rfl, rfl⟩) rfl rfl rfl (fun x K hK => ?_) ?_
  rotate_left
  · go_big_quiet_op
    exact hK
  refine hoist [] [] (a1 := ?_) 2 rfl (by kernel_rfl) (.inl ⟨rfl, rfl⟩) rfl rfl rfl (fun x K hK => ?_) ?_
  rotate_left
  · go_big_quiet_op
    exact hK
  refine hoist [] [] (a1 := ?_) 3 rfl (by kernel_rfl) (.inl ⟨rfl, rfl⟩) rfl rfl rfl (fun x K hK => ?_) ?_
  rotate_left
  · go_big_quiet_op
    exact hK
  refine hoist [] [] (a1 := ?_) 4 rfl (by kernel_rfl) (.inl ⟨rfl, rfl⟩) rfl rfl rfl (fun x K hK => ?_) ?_
  rotate_left
  · go_big_quiet_op
    exact hK
  refine hoist [] [] (a1 := ?_) 5 rfl (by kernel_rfl) (.inl ⟨rfl, rfl⟩) rfl rfl rfl (fun x K hK => ?_) ?_
  rotate_left
  · go_big_quiet_op
    exact hK
  refine hoist [] [] (a1 := ?_) 6 rfl (by kernel_rfl) (.inl ⟨rfl, rfl⟩) rfl rfl rfl (fun x K hK => ?_) ?_
  rotate_left
  · go_big_quiet_op
    exact hK
  refine hoist [] [] (a1 := ?_) 7 rfl (by kernel_rfl) (.inl ⟨rfl, rfl⟩) rfl rfl rfl (fun x K hK => ?_) ?_
  rotate_left
  · go_big_quiet_op
    exact hK
  refine hoist [] [] (a1 := ?_) 8 rfl (by kernel_rfl) (.inl ⟨rfl, rfl⟩) rfl rfl rfl (fun x K hK => ?_) ?_
  rotate_left
  · go_big_quiet_op
    exact hK
  refine hoist [] [] (a1 := ?_) 9 rfl (by kernel_rfl) (.inl ⟨rfl, rfl⟩) rfl rfl rfl (fun x K hK => ?_) ?_
  rotate_left
  · go_big_quiet_op
    exact hK
  refine done (by kernel_rfl) (fun xr => ?_)
  have B := Lib.hid xr.bw
  clear l0 l1
  generalize xr.now = w1 at *
  go_wp2_with fail
  go_ret
  exact ⟨rfl, B.out⟩
set_option maxRecDepth 100000 in
set_option maxHeartbeats 8000000 in
theorem way_used (g : Nat) (K : List Nat) (lim : Int) (used gm : Nat) (M : List (Nat × Nat × Nat)) (w : World) (hW : WayV w g K lim used gm M) :
    Calls Try.prog 16 #[.pointer (some ⟨g, 0, none⟩)] w fun e w' => e = .returned (.int .i64 (used : Nat)) ∧ w = w' := by
  have z1 := hW.used
  clear hW
  go_enter Try.func16, Try.ntmps16
  go_wp2_with fail
  go_ret
  exact ⟨rfl, rfl⟩
theorem shr6 (b : Nat) (hb : b < 256) : ((b : Int) / 64 == 2) = decide (b / 64 = 2) := by
  have : ((b : Int) / 64 = 2) = (b / 64 = 2) := by refine propext ⟨fun h => ?_, fun h => ?_⟩ <;> omega
  rw [← decide_eq_decide.2 (iff_of_eq this)]
  exact Bool.beq_eq_decide_eq _ _
set_option maxRecDepth 100000 in
set_option maxHeartbeats 8000000 in
theorem peek_ok (sb : Option Addr) (n cb : Nat) (b : List Nat) (hn : n ≤ 1000000) (w : World) (hv : SB w (.slice sb n cb) n b) :
    Calls Try.prog 7 #[.slice sb n cb] w fun e w' => e = .returned (.tuple #[.int .u32 ((peekN b).1 : Nat), .int .u16 ((peekN b).2.1 : Nat), .int .i64 ((peekN b).2.2 : Nat)]) ∧ w = w' := by
  have hbl := hv.1
  have hby := hv.2.1
  by_cases h1 : 1200 < n
  · have hR : peekN b = (0, 0, 3) := by unfold peekN; rw [if_pos (by omega)]
    have d1 : decide (1200 < (n : Int)) = true := by simp; omega
    rw [hR]
    go_enter Try.func7, Try.ntmps7
    go_wp2_with fail
    go_ret3
    exact ⟨rfl, rfl⟩
  have d1 : decide (1200 < (n : Int)) = false := by simp; omega
  by_cases h2 : n < 22
  · have hR : peekN b = (0, 0, 2) := by unfold peekN; rw [if_neg (by omega), if_pos (by omega)]
    have d2 : decide ((n : Int) < 22) = true := by simp; omega
    rw [hR]
    go_enter Try.func7, Try.ntmps7
    go_wp2_with fail
    go_ret3
    exact ⟨rfl, rfl⟩
  have d2 : decide ((n : Int) < 22) = false := by simp; omega
  obtain ⟨q, o, cap, he, hcap, hm, hq, hcell⟩ := hv.form (by omega)
  obtain ⟨rfl, rfl⟩ : sb = some ⟨q, o, none⟩ ∧ cb = cap := by simpa using he
  have z0 := hcell 0 (by omega)
  rw [Nat.add_zero] at z0
  have hb0 : b.getD 0 0 < 256 := by
    rw [List.getD_eq_getElem?_getD, List.getElem?_eq_getElem (by omega)]
    exact hby _ (List.getElem_mem _)
  have hR0 : peekN b = if b.getD 0 0 / 64 ≠ 2 then (0, 0, 3) else if (hdrN (b.take (n - 10))).2 = false then (0, 0, 2) else (nm b 8 4, nm b 2 2, 0) := by
    unfold peekN
    rw [hbl, if_neg (by omega), if_neg (by omega)]
  have d3 := shr6 (b.getD 0 0) hb0
  have V := hv.takeW (n - 10) (by omega)
  have ch := Lib.hid (header_ok _ (n - 10) _ (by omega) (by omega) w V)
  have c8 := num_ok _ n b 8 4 8 4 (by omega) (by omega) (by omega) rfl rfl w hv
  have c2 := num_ok _ n b 2 2 2 2 (by omega) (by omega) (by omega) rfl rfl w hv
  change Calls _ _ _ _ fun e w' => e = .returned (.tuple #[.int .u64 (nm b 8 4 : Nat), .bool true]) ∧ w = w' at c8
  change Calls _ _ _ _ fun e w' => e = .returned (.tuple #[.int .u64 (nm b 2 2 : Nat), .bool true]) ∧ w = w' at c2
  have hx8 : nm b 8 4 < 4294967296 := nm_lt b hby 8 4
  have hx2 : nm b 2 2 < 65536 := nm_lt b hby 2 2
  have u8' : IntKind.u32.wrap ((nm b 8 4 : Nat) : Int) = (nm b 8 4 : Nat) := IntWalk.u32_in _ (by omega)
  have u2' : IntKind.u16.wrap ((nm b 2 2 : Nat) : Int) = (nm b 2 2 : Nat) := IntWalk.u16_in _ (by omega)
  have hcut := fun w => run_cut_h (P := Try.prog) Try.underlying22 info_u8 (some ⟨q, o, none⟩) n cb (n - 10) ((n : Int) - 10) (by omega) .i64 (by omega) w
  generalize hdrN (b.take (n - 10)) = H at *
  generalize peekN b = R at *
  generalize nm b 8 4 = x8 at *
  generalize nm b 2 2 = x2 at *
  generalize b.getD 0 0 = b0 at *
  generalize n - 10 = m at *
  clear hcell he hv V hby
  replace c8 := Lib.hid c8
  replace c2 := Lib.hid c2
  replace hbl := Lib.hid hbl
  by_cases h6 : b0 / 64 = 2
  · rw [decide_eq_true h6] at d3
    rw [if_neg (by simpa using h6)] at hR0
    clear h6
    obtain ⟨Hn, Hb⟩ := H
    dsimp only at ch hR0
    cases Hb with
    | false =>
      rw [if_pos rfl] at hR0
      subst hR0
      go_enter Try.func7, Try.ntmps7
      go_wp2_with fail
      refine Calls.mono ch.out ?_
      rintro e w' ⟨rfl, rfl⟩
      dsimp only
      go_wp2_with fail
      go_ret3
      exact ⟨rfl, rfl⟩
    | true =>
      rw [if_neg (by decide)] at hR0
      subst hR0
      go_enter Try.func7, Try.ntmps7
      go_wp2_with fail
      refine Calls.mono ch.out ?_
      rintro e w' ⟨rfl, rfl⟩
      dsimp only
      go_wp2_with fail
      refine Calls.mono c8.out ?_
      rintro e w' ⟨rfl, rfl⟩
      dsimp only
      go_wp2_with fail
      refine Calls.mono c2.out ?_
      rintro e w' ⟨rfl, rfl⟩
      dsimp only
      go_wp2_with fail
      go_ret3
      exact ⟨rfl, rfl⟩
  · rw [decide_eq_false h6] at d3
    rw [if_pos (by simpa using h6)] at hR0
    subst hR0
    clear h6
    go_enter Try.func7, Try.ntmps7
    go_wp2_with fail
    go_ret3
    exact ⟨rfl, rfl⟩
end Go.Proofs.Ytikmhlbpefednaa

namespace Go.Proofs.Ytikmhlbpefednaa
open Go.RowKit

theorem or64 (b j : Nat) (hb : b < 18446744073709551616) (hj : j < 64) : bits .or .u64 (b : Int) (IntKind.u64.wrap (2 ^ j)) = ((b ||| 2 ^ j : Nat) : Int) := by
  have h1 : 2 ^ j < 18446744073709551616 := Nat.pow_lt_pow_right (by decide) hj
  have e : IntKind.u64.wrap ((2 : Int) ^ j) = ((2 ^ j : Nat) : Int) := by
    rw [show (2 : Int) ^ j = ((2 ^ j : Nat) : Int) by push_cast; rfl]
    generalize 2 ^ j = y at *
    exact IntWalk.u64_in _ (by omega)
  rw [e]
  exact u64_or_nat b (2 ^ j) hb h1
theorem sh64 (b j : Nat) : bits .or .u64 (IntKind.u64.wrap ((b : Int) * 2 ^ min j 64)) 1 = (((b * 2 ^ j) % 18446744073709551616 ||| 1 : Nat) : Int) := by
  have e1 : (b * 2 ^ min j 64) % 18446744073709551616 = (b * 2 ^ j) % 18446744073709551616 := by
    by_cases h : j ≤ 64
    · rw [Nat.min_eq_left h]
    · obtain ⟨k, rfl⟩ : ∃ k, j = 64 + k := ⟨j - 64, by omega⟩
      rw [Nat.min_eq_right (by omega), Nat.pow_add, show b * (2 ^ 64 * 2 ^ k) = 18446744073709551616 * (b * 2 ^ k) by rw [show (2 : Nat) ^ 64 = 18446744073709551616 from rfl, Nat.mul_left_comm], Nat.mul_mod_right, show b * 2 ^ 64 = 18446744073709551616 * b by rw [show (2 : Nat) ^ 64 = 18446744073709551616 from rfl, Nat.mul_comm], Nat.mul_mod_right]
  have e2 : ((b : Int) * 2 ^ min j 64) = ((b * 2 ^ min j 64 : Nat) : Int) := by push_cast; rfl
  have e3 : IntKind.u64.wrap ((b : Int) * 2 ^ min j 64) = (((b * 2 ^ j) % 18446744073709551616 : Nat) : Int) := by
    rw [e2, ← e1]
    generalize b * 2 ^ min j 64 = y
    simp [IntKind.wrap, IntKind.bits, IntKind.signed]
  rw [e3]
  exact u64_or_nat _ 1 (Nat.mod_lt _ (by decide)) (by decide)
set_option maxRecDepth 100000 in
set_option maxHeartbeats 8000000 in
theorem mark1_ok (g1 g2 p nx bs i : Nat) (hn : nx ≤ 4611686018427387904) (hb : bs < 18446744073709551616) (hi : i ≤ 2305843009213693952) (hf : wFresh nx bs i = true) (w : World) (h1 : HpB w g1 (.cells #[.pointer (some ⟨p, 0, none⟩)] 113)) (h2 : HpB w g2 (.cells #[.int .i64 (i : Nat)] 2)) (h : WinV w p nx bs) :
    Calls Try.prog 57 #[.pointer (some ⟨g1, 0, none⟩), .pointer (some ⟨g2, 0, none⟩)] w fun e w' => e = .returned (.tuple #[]) ∧ WinV w' p (wMark nx bs i).1 (wMark nx bs i).2 ∧ Still [p] w w' := by
  have cB := Lib.hid (wbelow_ok p nx bs i hn (by omega) w h)
  have a0 := (hp_cell h1 0).trans (show _ = some (.pointer (some ⟨p, 0, none⟩)) from rfl)
  have a1 := (hp_cell h2 0).trans (show _ = some (.int .i64 (i : Nat)) from rfl)
  have z0 := (hp_cell h 0).trans (show _ = some (.int .i64 (nx : Nat)) from rfl)
  have z1 := (hp_cell h 1).trans (show _ = some (.int .u64 (bs : Nat)) from rfl)
  have f0 := hp_frz h 0
  have f1 := hp_frz h 1
  have hH := Lib.hid h
  have hne1 := hp_ne h1 h (by decide)
  have hne2 := hp_ne h2 h (by decide)
  clear h
  by_cases hlt : i < nx
  · obtain ⟨j, hj⟩ : ∃ j : Nat, (nx : Int) - 1 - (i : Int) = (j : Nat) := ⟨nx - 1 - i, by omega⟩
    have hj64 : j < 64 := by
      unfold wFresh at hf
      rw [hj] at hf
      simp only [Bool.and_eq_true, Bool.or_eq_true, decide_eq_true_eq] at hf
      omega
    rw [hj] at cB
    have hM : wMark nx bs i = (nx, bs ||| 2 ^ j) := by
      unfold wMark
      rw [if_pos hlt, show nx - 1 - i = j by omega]
    have hor := or64 bs j hb hj64
    have d1 : decide ((0 : Int) ≤ (j : Int)) = true := by simp
    rw [hM]
    generalize bs ||| 2 ^ j = nb at *
    have l0 : ∀ y : LaterS [] w, y.now.cell? _ = _ := fun y => y.bw.cell a0
    have l1 : ∀ y : LaterS [] w, y.now.cell? _ = _ := fun y => y.bw.cell z1
    clear hj hf hM hlt
    go_enter Try.func57, Try.ntmps57
    go_wp2_with fail
    refine Calls.mono cB.out ?_
    rintro e w' ⟨rfl, rfl⟩
    dsimp only
    go_upto_region 2 with (fail)
    clear a0 a1 z0 z1 f0 f1
    refine wp_region_gg [] [] [9] (by kernel_rfl) ?_
    refine hoist [] [] (a1 := ?_) 0 rfl (by kernel_rfl) (.inl ⟨rfl, rfl⟩) rfl rfl rfl (fun x K hK => ?_) ?_
    rotate_left
    · go_big_quiet_op
      exact hK
    refine hoist [] [] (a1 := ?_) 1 rfl (by kernel_rfl) (.inl ⟨rfl, rfl⟩) rfl rfl rfl (fun x K hK => ?_) ?_
    rotate_left
    · go_big_quiet_op
      exact hK
    refine hoist [] [] (a1 := ?_) 2 rfl (by kernel_rfl) (.inl ⟨rfl, rfl⟩) rfl rfl rfl (fun x K hK => ?_) ?_
    rotate_left
    · go_big_quiet_op
      exact hK
    refine hoist [] [] (a1 := ?_) 3 rfl (by kernel_rfl) (.inl ⟨rfl, rfl⟩) rfl rfl rfl (fun x K hK => ?_) ?_
    rotate_left
    · go_big_quiet_op
      exact hK
    refine hoist [] [] (a1 := ?_) 4 rfl (by kernel_rfl) (.inl ⟨rfl, rfl⟩) rfl rfl rfl (fun x K hK => ?_) ?_
    rotate_left
    · go_big_quiet_op
      exact hK
    refine hoist [] [] (a1 := ?_) 5 rfl (by kernel_rfl) (.inl ⟨rfl, rfl⟩) rfl rfl rfl (fun x K hK => ?_) ?_
    rotate_left
    · go_big_quiet_op
      exact hK
    refine hoist [] [] (a1 := ?_) 6 rfl (by kernel_rfl) (.inl ⟨rfl, rfl⟩) rfl rfl rfl (fun x K hK => ?_) ?_
    rotate_left
    · go_big_quiet_op
      exact hK
    refine hoist [] [] (a1 := ?_) 7 rfl (by kernel_rfl) (.inl ⟨rfl, rfl⟩) rfl rfl rfl (fun x K hK => ?_) ?_
    rotate_left
    · go_big_quiet_op
      exact hK
    refine hoist [] [] (a1 := ?_) 8 rfl (by kernel_rfl) (.inl ⟨rfl, rfl⟩) rfl rfl rfl (fun x K hK => ?_) ?_
    rotate_left
    · go_big_quiet_op
      exact hK
    refine tail 9 rfl (by kernel_rfl) rfl (fun xr => ?_)
    simp only [List.drop_succ_cons, List.drop_zero]
    have hX := hH.out.bw xr.bw
    have f1 := hp_frz hX 1
    have z1 := (hp_cell hX 1).trans (show _ = some (.int .u64 (bs : Nat)) from rfl)
    have T := (xr.bw.still [p]).trans (still_sc xr.now p 1 (.int .u64 (nb : Nat)))
    have hY : WinV (xr.now.setCell ⟨p, 1, none⟩ (.int .u64 (nb : Nat))) p nx nb := hp_set hX 1 _
    replace hX := Lib.hid hX
    replace T := Lib.hid T
    replace hY := Lib.hid hY
    clear l0 l1
    go_wp2_with fail
    exact bodyPost_ret (results_none rfl _ _ _) rfl ⟨rfl, hY.out, T.out⟩
  · obtain ⟨j, hj⟩ : ∃ j : Nat, (nx : Int) - 1 - (i : Int) = -(j : Int) ∧ j = i + 1 - nx := ⟨i + 1 - nx, by omega, rfl⟩
    rw [hj.1] at cB
    have hj1 : 1 ≤ j := by omega
    have hM : wMark nx bs i = (i + 1, (bs * 2 ^ j) % 18446744073709551616 ||| 1) := by
      unfold wMark
      rw [if_neg hlt, hj.2]
    have d1 : decide ((0 : Int) ≤ -(j : Int)) = false := by simp; omega
    have hjm : (j : Int) ≤ 4611686018427387904 := by omega
    have hsh := sh64 bs j
    rw [hM]
    generalize (bs * 2 ^ j) % 18446744073709551616 ||| 1 = nb at *
    have l0 : ∀ y : LaterS [] w, y.now.cell? _ = _ := fun y => y.bw.cell a0
    have l1 : ∀ y : LaterS [] w, y.now.cell? _ = _ := fun y => y.bw.cell z1
    have l2 : ∀ y : LaterS [] w, y.now.cell? _ = _ := fun y => y.bw.cell a1
    clear hj hf hM hlt
    go_enter Try.func57, Try.ntmps57
    go_wp2_with fail
    refine Calls.mono cB.out ?_
    rintro e w' ⟨rfl, rfl⟩
    dsimp only
    go_upto_region 3 with (fail)
    clear a0 a1 z0 z1 f0 f1
    refine wp_region_gg [] [] [11] (by kernel_rfl) ?_
    refine hoist [] [] (a1 := ?_) 0 rfl (by kernel_rfl) (.inl ⟨rfl, rfl⟩) rfl rfl rfl (fun x K hK => ?_) ?_
    rotate_left
    · go_big_quiet_op
      exact hK
    refine hoist [] [] (a1 := ?_) 1 rfl (by kernel_rfl) (.inl ⟨rfl, rfl⟩) rfl rfl rfl (fun x K hK => ?_) ?_
    rotate_left
    · go_big_quiet_op
      exact hK
    refine hoist [] [] (a1 := ?_) 2 rfl (by kernel_rfl) (.inl ⟨rfl, rfl⟩) rfl rfl rfl (fun x K hK => ?_) ?_
    rotate_left
    · go_big_quiet_op
      exact hK
    refine hoist [] [] (a1 := ?_) 3 rfl (by kernel_rfl) (.inl ⟨rfl, rfl⟩) rfl rfl rfl (fun x K hK => ?_) ?_
    rotate_left
    · go_big_quiet_op
      exact hK
    refine hoist [] [] (a1 := ?_) 4 rfl (by kernel_rfl) (.inl ⟨rfl, rfl⟩) rfl rfl rfl (fun x K hK => ?_) ?_
    rotate_left
    · go_big_quiet_op
      exact hK
    refine hoist [] [] (a1 := ?_) 5 rfl (by kernel_rfl) (.inl ⟨rfl, rfl⟩) rfl rfl rfl (fun x K hK => ?_) ?_
    rotate_left
    · go_big_quiet_op
      exact hK
    refine hoist [] [] (a1 := ?_) 6 rfl (by kernel_rfl) (.inl ⟨rfl, rfl⟩) rfl rfl rfl (fun x K hK => ?_) ?_
    rotate_left
    · go_big_quiet_op
      exact hK
    refine hoist [] [] (a1 := ?_) 7 rfl (by kernel_rfl) (.inl ⟨rfl, rfl⟩) rfl rfl rfl (fun x K hK => ?_) ?_
    rotate_left
    · go_big_quiet_op
      exact hK
    refine hoist [] [] (a1 := ?_) 8 rfl (by kernel_rfl) (.inl ⟨rfl, rfl⟩) rfl rfl rfl (fun x K hK => ?_) ?_
    rotate_left
    · go_big_quiet_op
      exact hK
    refine hoist [] [] (a1 := ?_) 9 rfl (by kernel_rfl) (.inl ⟨rfl, rfl⟩) rfl rfl rfl (fun x K hK => ?_) ?_
    rotate_left
    · go_big_quiet_op
      exact hK
    refine hoist [] [] (a1 := ?_) 10 rfl (by kernel_rfl) (.inl ⟨rfl, rfl⟩) rfl rfl rfl (fun x K hK => ?_) ?_
    rotate_left
    · go_big_quiet_op
      exact hK
    refine tail 11 rfl (by kernel_rfl) rfl (fun xr => ?_)
    simp only [List.drop_succ_cons, List.drop_zero]
    have hX := hH.out.bw xr.bw
    have b0 := (hp_cell (h1.bw xr.bw) 0).trans (show _ = some (.pointer (some ⟨p, 0, none⟩)) from rfl)
    have b1 := (hp_cell (h2.bw xr.bw) 0).trans (show _ = some (.int .i64 (i : Nat)) from rfl)
    have f0 := hp_frz hX 0
    have f1 := hp_frz hX 1
    have z0 := (hp_cell hX 0).trans (show _ = some (.int .i64 (nx : Nat)) from rfl)
    have z1 := (hp_cell hX 1).trans (show _ = some (.int .u64 (bs : Nat)) from rfl)
    have T := ((xr.bw.still [p]).trans (still_sc xr.now p 1 (.int .u64 (nb : Nat)))).trans (still_sc _ p 0 (.int .i64 ((i : Int) + 1)))
    have hY : WinV ((xr.now.setCell ⟨p, 1, none⟩ (.int .u64 (nb : Nat))).setCell ⟨p, 0, none⟩ (.int .i64 ((i : Int) + 1))) p (i + 1) nb := hp_set (hp_set hX 1 _) 0 _
    replace hX := Lib.hid hX
    replace T := Lib.hid T
    replace hY := Lib.hid hY
    clear l0 l1 l2
    have hi' : (i : Int) ≤ 2305843009213693952 := by omega
    go_wp2_with fail
    go_end0
    exact ⟨rfl, hY.out, T.out⟩
theorem wMark_lt (nx bs i : Nat) (hb : bs < 18446744073709551616) (hf : wFresh nx bs i = true) : (wMark nx bs i).2 < 18446744073709551616 := by
  unfold wMark
  split
  · rename_i h
    have hj64 : nx - 1 - i < 64 := by
      unfold wFresh at hf
      simp only [Bool.and_eq_true, Bool.or_eq_true, decide_eq_true_eq] at hf
      omega
    exact Nat.or_lt_two_pow (n := 64) hb (Nat.pow_lt_pow_right (by decide) hj64)
  · exact Nat.or_lt_two_pow (n := 64) (Nat.mod_lt _ (by decide)) (by decide)
set_option maxRecDepth 100000 in
set_option maxHeartbeats 8000000 in
theorem mark_ok (p nx bs i : Nat) (hn : nx ≤ 4611686018427387904) (hb : bs < 18446744073709551616) (hi : i ≤ 2305843009213693952) (hf : wFresh nx bs i = true) (w : World) (h : WinV w p nx bs) :
    Calls Try.prog 34 #[.pointer (some ⟨p, 0, none⟩), .int .i64 (i : Nat)] w fun e w' => e = .returned (.int .i64 0) ∧ WinV w' p (wMark nx bs i).1 (wMark nx bs i).2 ∧ Still [p] w w' := by
  have hmf : ∀ (fn : Fn) (first cap : Array Value) (w : World), (Instr.makeFunc fn first cap).run Try.prog w = .ok (.func fn first cap) w := fun _ _ _ _ => rfl
  have B1 : BW w (w.alloc (.cells #[.pointer (some ⟨p, 0, none⟩)] 113)) := (BW.refl w).alloc
  have B2 : BW (w.alloc (.cells #[.pointer (some ⟨p, 0, none⟩)] 113)) ((w.alloc (.cells #[.pointer (some ⟨p, 0, none⟩)] 113)).alloc (.cells #[.int .i64 (i : Nat)] 2)) := (BW.refl _).alloc
  have P := Lib.hid ((HpB.new w (.cells #[.pointer (some ⟨p, 0, none⟩)] 113)).bw B2)
  have Q := Lib.hid (show HpB _ (w.heap.size + 1) _ from hp_new (w.alloc (.cells #[.pointer (some ⟨p, 0, none⟩)] 113)) (.cells #[.int .i64 (i : Nat)] 2) (w.heap.size + 1) (by simp))
  have B := Lib.hid (B1.trans B2)
  have hH := Lib.hid (h.bw B.out)
  clear B1 B2 h
  go_enter Try.func34, Try.ntmps34
  go_upto_region 1 with (fail)
  generalize (w.alloc _).alloc _ = w1 at *
  have a0 := (hp_cell P.out 0).trans (show _ = some (.pointer (some ⟨p, 0, none⟩)) from rfl)
  have a1 := (hp_cell Q.out 0).trans (show _ = some (.int .i64 (i : Nat)) from rfl)
  have cF := Lib.hid (wfresh_ok p nx bs (i : Nat) hn hb (by omega) w1 hH.out)
  rw [hf] at cF
  have cM := Lib.hid (mark1_ok w.heap.size (w.heap.size + 1) p nx bs i hn hb hi hf w1 P.out Q.out hH.out)
  have cw : Hid (Calls Try.prog 56 #[.func (.func 55) #[.pointer (some ⟨p, 0, none⟩)] #[], .int .i64 (i : Nat), .func (.func 57) #[] #[.pointer (some ⟨w.heap.size, 0, none⟩), .pointer (some ⟨w.heap.size + 1, 0, none⟩)]] w1 fun e w' => e = .returned (.int .i64 0) ∧ WinV w' p (wMark nx bs i).1 (wMark nx bs i).2 ∧ Still [p] w1 w') := by
    show Calls _ _ _ _ _
    clear a0 a1 P Q hH hf
    go_enter Try.func56, Try.ntmps56
    go_wp2_with fail
    refine Calls.mono cF.out ?_
    rintro e w' ⟨rfl, rfl⟩
    dsimp only
    go_wp2_with fail
    refine Calls.mono cM.out ?_
    rintro e w2 ⟨rfl, h2, t2⟩
    replace h2 := Lib.hid h2
    replace t2 := Lib.hid t2
    dsimp only
    go_wp2_with fail
    go_ret
    exact ⟨rfl, h2.out, t2.out⟩
  clear cF cM hf
  go_wp2_with fail
  refine Calls.mono cw.out ?_
  rintro e w2 ⟨rfl, h2, t2⟩
  replace h2 := Lib.hid h2
  replace t2 := Lib.hid t2
  dsimp only
  go_wp2_with fail
  go_ret
  exact ⟨rfl, h2.out, (B.out.still [p]).trans t2.out⟩
end Go.Proofs.Ytikmhlbpefednaa

namespace Go.Proofs.Ytikmhlbpefednaa
open Go.RowKit

/-- The likely index. -/
def idxN (h : Int) (s : Nat) : Int :=
  if h < 0 then s else
    let o := (s - h) % 65536
    let o1 := if 32768 < o then o - 65536 else o
    if h + o1 < 0 then h + (o1 + 65536) else h + o1
theorem idxN_ge (h : Int) (s : Nat) : 0 ≤ idxN h s ∧ idxN h s ≤ h + 131072 ∨ (h < 0 ∧ idxN h s = s) := by
  unfold idxN
  split
  · right; omega
  · left
    dsimp only
    split <;> split <;> omega
set_option maxRecDepth 100000 in
set_option maxHeartbeats 8000000 in
theorem idx_ok (h : Int) (s : Nat) (hh : -1 ≤ h ∧ h ≤ 1152921504606846976) (hs : s < 65536) (w : World) :
    Calls Try.prog 53 #[.int .i64 h, .int .u16 (s : Nat)] w fun e w' => e = .returned (.int .i64 (idxN h s)) ∧ w = w' := by
  by_cases h0 : h < 0
  · have d : decide (h < 0) = true := by simpa using h0
    have hR : idxN h s = s := if_pos h0
    rw [hR]
    clear hR h0
    go_enter Try.func53, Try.ntmps53
    go_wp2_with fail
    go_ret
    exact ⟨rfl, rfl⟩
  have d : decide (h < 0) = false := by simpa using h0
  have c := Lib.hid (seq_ok h w)
  have e1 : IntKind.u16.wrap ((s : Int) - IntKind.u16.wrap h) = (s - h) % 65536 := by
    rw [IntKind.wrap_u16, IntKind.wrap_u16]
    omega
  have hR : idxN h s = (let o := (s - h) % 65536; let o1 := if 32768 < o then o - 65536 else o; if h + o1 < 0 then h + (o1 + 65536) else h + o1) := if_neg h0
  have hob : 0 ≤ ((s : Int) - h) % 65536 ∧ ((s : Int) - h) % 65536 ≤ 65535 := by omega
  generalize IntKind.u16.wrap h = sh at *
  generalize ((s : Int) - h) % 65536 = off at *
  dsimp only at hR
  generalize idxN h s = r at *
  go_enter Try.func53, Try.ntmps53
  go_wp2_with fail
  refine c.out.mono ?_
  rintro e w1 ⟨rfl, rfl⟩
  dsimp only
  clear c
  by_cases c1 : 32768 < off
  · have d1 : decide (32768 < off) = true := by simpa using c1
    rw [if_pos c1] at hR
    by_cases c2 : h + (off - 65536) < 0
    · have d2 : decide (h + (off - 65536) < 0) = true := by simpa using c2
      rw [if_pos c2] at hR
      have e5 : off - 65536 + 65536 = off := by omega
      rw [e5] at hR
      subst hR
      clear c1 c2 e5
      go_wp2_with fail
      go_ret
      exact ⟨by simp, rfl⟩
    · have d2 : decide (h + (off - 65536) < 0) = false := by simpa using c2
      rw [if_neg c2] at hR
      subst hR
      clear c1 c2
      go_wp2_with fail
      go_ret
      exact ⟨rfl, rfl⟩
  · have d1 : decide (32768 < off) = false := by simpa using c1
    have d2 : decide (h + off < 0) = false := by simp; omega
    rw [if_neg c1, if_neg (by omega)] at hR
    subst hR
    clear c1
    go_wp2_with fail
    go_ret
    exact ⟨rfl, rfl⟩

def getW (M : List (Nat × Nat × Nat)) (s : Nat) : Nat × Nat := ((M.find? fun p => p.1 == s).map (·.2)).getD (0, 0)
def hasW (M : List (Nat × Nat × Nat)) (s : Nat) : Bool := M.any fun p => p.1 == s
structure MOk (M : List (Nat × Nat × Nat)) : Prop where
  nd : (M.map Prod.fst).Nodup
  b : ∀ p ∈ M, p.1 < 4294967296 ∧ p.2.1 ≤ 281474976710657 ∧ p.2.2 < 18446744073709551616
theorem MOk.nil : MOk [] := ⟨by simp, by simp⟩
theorem getW_mem {M : List (Nat × Nat × Nat)} (h : (M.map Prod.fst).Nodup) {s : Nat} {v : Nat × Nat} (hm : (s, v) ∈ M) : getW M s = v ∧ hasW M s = true := by
  constructor
  · induction M with
    | nil => cases hm
    | cons p M ih =>
      rw [List.map_cons, List.nodup_cons] at h
      unfold getW
      rcases List.mem_cons.1 hm with rfl | hm'
      · simp
      · have hne : (p.1 == s) = false := by
          rw [beq_eq_false_iff_ne]
          rintro rfl
          exact h.1 (List.mem_map.2 ⟨_, hm', rfl⟩)
        rw [List.find?_cons, hne]
        exact ih h.2 hm'
  · exact List.any_eq_true.2 ⟨_, hm, by simp⟩
theorem getW_none {M : List (Nat × Nat × Nat)} {s : Nat} (h : ∀ p ∈ M, p.1 ≠ s) : getW M s = (0, 0) ∧ hasW M s = false := by
  have hf : M.find? (fun p => p.1 == s) = none := List.find?_eq_none.2 fun p hp => by simpa using h p hp
  constructor
  · unfold getW; rw [hf]; rfl
  · unfold hasW
    rw [List.any_eq_false]
    intro p hp
    simpa using h p hp
theorem getW_b {M : List (Nat × Nat × Nat)} (h : MOk M) (s : Nat) : (getW M s).1 ≤ 281474976710657 ∧ (getW M s).2 < 18446744073709551616 := by
  unfold getW
  cases hf : M.find? (fun p => p.1 == s) with
  | none => exact ⟨by decide, by decide⟩
  | some p =>
    have := h.b p (List.mem_of_find?_eq_some hf)
    exact ⟨this.2.1, this.2.2⟩
theorem u32Law : Maps.Keyed Try.prog 24 := Maps.int_keyed Try.underlying24
theorem u32_key (n : Nat) (h : n < 4294967296) : keyOf Try.prog 24 (.int .u32 (n : Nat)) = some (.int .u32 (n : Nat)) :=
  Maps.keyOf_int_mk Try.underlying24 (by simp [Lit.wf, IntKind.min, IntKind.max, IntKind.signed, IntKind.bits]; omega)
theorem winS_keys {M : List (Nat × Nat × Nat)} (h : MOk M) : ∀ p ∈ winS M, ∃ l, keyOf Try.prog 24 p.1 = some l := fun p hp => by
  obtain ⟨q, hq, rfl⟩ := List.mem_map.1 hp
  exact ⟨_, u32_key q.1 (h.b q hq).1⟩
theorem look_w {w : World} {gm : Nat} {M : List (Nat × Nat × Nat)} (h : MapIn w gm (winS M)) (hM : MOk M) (s : Nat) (hs : s < 4294967296) :
    (Instr.lookup 81 (.map (some gm)) (.int .u32 (s : Nat)) true).run Try.prog w = .ok (.tuple #[.agg #[.int .i64 ((getW M s).1 : Nat), .int .u64 ((getW M s).2 : Nat)], .bool (hasW M s)]) w := by
  have hz : (zeroValue 89).run Try.prog w = .ok (.agg #[.int .i64 0, .int .u64 0]) w := by kernel_rfl
  rcases h.look u32Law Try.underlying81 (winS_keys hM) hz (u32_key s hs) with ⟨v, h1, h2⟩ | ⟨h1, h2⟩
  · obtain ⟨q, hq, he⟩ := List.mem_map.1 h1
    obtain ⟨q1, qv⟩ := q
    simp only [Prod.mk.injEq, Value.int.injEq, true_and] at he
    obtain ⟨he1, rfl⟩ := he
    obtain rfl : q1 = s := by omega
    obtain ⟨e1, e2⟩ := getW_mem hM.nd hq
    rw [h2 true, if_pos rfl, e1, e2]
  · have hn : ∀ p ∈ M, p.1 ≠ s := fun p hp he => by
      refine h1 (.int .u32 (p.1 : Nat), .agg #[.int .i64 (p.2.1 : Nat), .int .u64 (p.2.2 : Nat)]) (List.mem_map.2 ⟨p, hp, rfl⟩) ?_
      rw [he]
    obtain ⟨e1, e2⟩ := getW_none hn
    rw [h2 true, if_pos rfl, e1, e2]
    rfl
def setW (M : List (Nat × Nat × Nat)) (s : Nat) (v : Nat × Nat) : List (Nat × Nat × Nat) := if hasW M s then M.map (fun p => if p.1 = s then (s, v) else p) else M ++ [(s, v)]
theorem hasW_iff {M : List (Nat × Nat × Nat)} {s : Nat} : hasW M s = true ↔ ∃ p ∈ M, p.1 = s := by
  unfold hasW
  rw [List.any_eq_true]
  simp
theorem setW_ok {M : List (Nat × Nat × Nat)} (h : MOk M) (s : Nat) (hs : s < 4294967296) (v : Nat × Nat) (hv : v.1 ≤ 281474976710657 ∧ v.2 < 18446744073709551616) : MOk (setW M s v) := by
  unfold setW
  split
  · refine ⟨?_, fun p hp => ?_⟩
    · have e : (M.map fun p => if p.1 = s then (s, v) else p).map Prod.fst = M.map Prod.fst := by
        rw [List.map_map]
        refine List.map_congr_left fun p _ => ?_
        simp only [Function.comp]
        split
        · rename_i h; exact h.symm
        · rfl
      rw [e]
      exact h.nd
    · obtain ⟨q, hq, rfl⟩ := List.mem_map.1 hp
      split
      · exact ⟨hs, hv⟩
      · exact h.b q hq
  · rename_i hn
    refine ⟨?_, fun p hp => ?_⟩
    · rw [List.map_append, List.nodup_append]
      refine ⟨h.nd, by simp, fun a ha b hb => ?_⟩
      simp only [List.map_cons, List.map_nil, List.mem_singleton] at hb
      subst hb
      rintro rfl
      obtain ⟨q, hq, hqs⟩ := List.mem_map.1 ha
      exact hn (hasW_iff.2 ⟨q, hq, hqs⟩)
    · rcases List.mem_append.1 hp with hp | hp
      · exact h.b p hp
      · simp only [List.mem_singleton] at hp
        subst hp
        exact ⟨hs, hv⟩
theorem upd_w {w : World} {gm : Nat} {M : List (Nat × Nat × Nat)} (h : MapIn w gm (winS M)) (hM : MOk M) (s : Nat) (hs : s < 4294967296) (v : Nat × Nat) :
    ∃ w', (Instr.mapUpdate 81 (.map (some gm)) (.int .u32 (s : Nat)) (.agg #[.int .i64 (v.1 : Nat), .int .u64 (v.2 : Nat)])).run Try.prog w = .ok () w' ∧ MapIn w' gm (winS (setW M s v)) ∧ Still [gm] w w' := by
  by_cases hh : hasW M s = true
  · obtain ⟨q, hq, hqs⟩ := hasW_iff.1 hh
    obtain ⟨w', i, p, h1, h2, h3, h4, h5⟩ := h.update u32Law Try.underlying81 (winS_keys hM) (val := .agg #[.int .i64 (v.1 : Nat), .int .u64 (v.2 : Nat)]) (u32_key s hs) ⟨_, List.mem_map.2 ⟨q, hq, rfl⟩, by rw [hqs]⟩
    refine ⟨w', h1, ?_, h5⟩
    have e : winS (setW M s v) = (winS M).set i (.int .u32 (s : Nat), .agg #[.int .i64 (v.1 : Nat), .int .u64 (v.2 : Nat)]) := by
      unfold setW
      rw [if_pos hh]
      have hi : i < M.length := by
        have := (List.getElem?_eq_some_iff.1 h2).1
        simpa [winS] using this
      have hMi : (M[i]).1 = s := by
        unfold winS at h2
        rw [List.getElem?_map, List.getElem?_eq_getElem hi] at h2
        simp only [Option.map_some, Option.some.injEq] at h2
        rw [← h2] at h3
        simp only [Value.int.injEq, true_and] at h3
        omega
      refine List.ext_getElem? fun j => ?_
      unfold winS
      rw [List.getElem?_map, List.getElem?_map, List.getElem?_set, List.getElem?_map, List.length_map]
      by_cases hij : i = j
      · subst hij
        rw [if_pos rfl, if_pos hi, List.getElem?_eq_getElem hi]
        simp [hMi]
      · rw [if_neg hij]
        cases hj : M[j]? with
        | none => rfl
        | some r =>
          have hjl := (List.getElem?_eq_some_iff.1 hj).1
          have hrs : r.1 ≠ s := fun he => by
            refine hij ?_
            have hn := hM.nd
            have e1 : (M.map Prod.fst)[i]'(by simpa using hi) = (M.map Prod.fst)[j]'(by simpa using hjl) := by
              rw [List.getElem_map, List.getElem_map, hMi, ← he, ← (List.getElem?_eq_some_iff.1 hj).2]
            exact (List.getElem_inj hn).1 e1
          simp [hrs]
    rw [e]
    exact h4
  · have hn : ∀ p ∈ winS M, p.1 ≠ .int .u32 (s : Nat) := fun p hp he => by
      obtain ⟨q, hq, rfl⟩ := List.mem_map.1 hp
      simp only [Value.int.injEq, true_and] at he
      exact hh (hasW_iff.2 ⟨q, hq, by omega⟩)
    obtain ⟨w', h1, h2, h3⟩ := h.insert u32Law Try.underlying81 (winS_keys hM) (u32_key s hs) hn (val := .agg #[.int .i64 (v.1 : Nat), .int .u64 (v.2 : Nat)])
    refine ⟨w', h1, ?_, h3⟩
    unfold setW
    rw [if_neg hh]
    have e : winS (M ++ [(s, v)]) = winS M ++ [(.int .u32 (s : Nat), .agg #[.int .i64 (v.1 : Nat), .int .u64 (v.2 : Nat)])] := by simp [winS]
    rw [e]
    exact h2
end Go.Proofs.Ytikmhlbpefednaa

namespace Go.Proofs.Ytikmhlbpefednaa
open Go.RowKit

def freshE (lim : Int) (used : Nat) (M : List (Nat × Nat × Nat)) (src seq : Nat) : Int × Nat :=
  if lim ≤ used then (0, 7) else if hasW M src = false ∧ 8 ≤ M.length then (0, 6)
  else if 281474976710656 ≤ idxN ((getW M src).1 - 1) seq then (0, 3)
  else if wFresh (getW M src).1 (getW M src).2 (idxN ((getW M src).1 - 1) seq) = false then (0, 5) else (idxN ((getW M src).1 - 1) seq, 0)
set_option maxRecDepth 100000 in
set_option maxHeartbeats 8000000 in
theorem fresh_ok (g : Nat) (K : List Nat) (lim : Int) (used gm : Nat) (M : List (Nat × Nat × Nat)) (src seq : Nat) (hM : MOk M) (hs : src < 4294967296) (hq : seq < 65536) (w : World) (hW : WayV w g K lim used gm M) :
    Calls Try.prog 32 #[.pointer (some ⟨g, 0, none⟩), .int .u32 (src : Nat), .int .u16 (seq : Nat)] w fun e w' => e = .returned (.tuple #[.agg #[.int .i64 ((getW M src).1 : Nat), .int .u64 ((getW M src).2 : Nat)], .int .i64 (freshE lim used M src seq).1, .int .i64 ((freshE lim used M src seq).2 : Nat)]) ∧ BW w w' := by
  have hlk := fun wz (h : BW w wz) => look_w ((hW.bw h).mp) hM src hs
  have hln := fun wz (h : BW w wz) ty => ((hW.bw h).mp).len Try.underlying81 ty
  have hml : (winS M).length = M.length := by simp [winS]
  have hb := getW_b hM src
  have cS := fun wz (h : BW w wz) => Lib.hid (way_spent g K lim used gm M wz (hW.bw h))
  have hmap := fun wz (h : BW w wz) => (hW.bw h).map
  have hE : freshE lim used M src seq = if lim ≤ used then (0, 7) else if hasW M src = false ∧ 8 ≤ M.length then (0, 6) else if 281474976710656 ≤ idxN ((getW M src).1 - 1) seq then (0, 3) else if wFresh (getW M src).1 (getW M src).2 (idxN ((getW M src).1 - 1) seq) = false then (0, 5) else (idxN ((getW M src).1 - 1) seq, 0) := rfl
  have hge := idxN_ge ((getW M src).1 - 1) seq
  rw [hml] at hln
  generalize freshE lim used M src seq = R at *
  generalize M.length = ml at *
  generalize hasW M src = has at *
  generalize getW M src = vb at *
  obtain ⟨nx, bs⟩ := vb
  dsimp only at hE hb hlk hge ⊢
  have cI := fun wz => Lib.hid (idx_ok ((nx : Int) - 1) seq (by omega) hq wz)
  have cH := fun wz p (h : WinV wz p nx bs) => Lib.hid (whigh_ok p nx bs (by omega) wz h)
  have cF := fun wz p i (hi : -2305843009213693952 ≤ i ∧ i ≤ 2305843009213693952) (h : WinV wz p nx bs) => Lib.hid (wfresh_ok p nx bs i (by omega) hb.2 hi wz h)
  generalize idxN ((nx : Int) - 1) seq = ix at *
  have hix : -2305843009213693952 ≤ ix ∧ ix ≤ 2305843009213693952 := by omega
  clear hge hW hml
  have BA : BW w (w.alloc (.cells #[.int .i64 0, .int .u64 0] 89)) := (BW.refl w).alloc
  have X1 := Lib.hid (HpB.new w (.cells #[.int .i64 0, .int .u64 0] 89))
  have m1 := hmap _ BA
  have k1 := hlk _ BA
  have B1 := Lib.hid BA
  replace BA := Lib.hid BA
  replace hb := Lib.hid hb
  replace hix := Lib.hid hix
  replace hE := Lib.hid hE
  go_enter Try.func32, Try.ntmps32
  go_upto_region 1 with (fail)
  generalize (w.alloc _) = w1 at *
  clear BA
  obtain ⟨g0, hg0⟩ : ∃ g0, g0 = w.heap.size := ⟨_, rfl⟩
  rw [← hg0] at X1 ⊢
  have BC : BW w1 (w1.alloc (.cells #[.int .i64 (nx : Nat), .int .u64 (bs : Nat)] 89)) := (BW.refl w1).alloc
  have Y2 := Lib.hid (show WinV _ w1.heap.size nx bs from HpB.new w1 (.cells #[.int .i64 (nx : Nat), .int .u64 (bs : Nat)] 89))
  have X2 := Lib.hid (X1.out.bw BC)
  have B2 := Lib.hid (B1.out.trans BC)
  have hlt := Lib.hid X1.out.lt
  clear X1 B1
  replace hg0 := Lib.hid hg0
  replace BC := Lib.hid BC
  go_upto_region 2 with (fail)
  generalize (w1.alloc _) = w2 at *
  generalize w1.heap.size = g1 at *
  clear m1 k1 BC
  go_wp2_with fail
  refine Calls.mono (cH w2 g1 Y2.out).out ?_
  rintro e w' ⟨rfl, rfl⟩
  dsimp only
  go_wp2_with fail
  refine Calls.mono (cI w2).out ?_
  rintro e w' ⟨rfl, rfl⟩
  dsimp only
  go_wp2_with fail
  refine Calls.mono (cS w2 B2.out).out ?_
  rintro e w3 ⟨rfl, hb3⟩
  have B3 := Lib.hid (B2.out.trans hb3)
  have X3 := Lib.hid (X2.out.bw hb3)
  have Y3 := Lib.hid (Y2.out.bw hb3)
  clear B2 X2 Y2 hb3 cH cI cS
  dsimp only
  by_cases h1 : lim ≤ (used : Int)
  · rw [decide_eq_true h1]
    have hR := hE.out
    rw [if_pos h1] at hR
    subst hR
    clear h1 hln cF hE
    have q0 := (hp_cell Y3.out 0).trans (show _ = some (.int .i64 (nx : Nat)) from rfl)
    have q1 := (hp_cell Y3.out 1).trans (show _ = some (.int .u64 (bs : Nat)) from rfl)
    have p0 := (hp_cell X3.out 0).trans (show _ = some (.int .i64 0) from rfl)
    have p1 := (hp_cell X3.out 1).trans (show _ = some (.int .u64 0) from rfl)
    have f0 := hp_frz X3.out 0
    have f1 := hp_frz X3.out 1
    have T4 := (still_sc w3 g0 0 (.int .i64 (nx : Nat))).trans (still_sc _ g0 1 (.int .u64 (bs : Nat)))
    have X4 : HpB ((w3.setCell ⟨g0, 0, none⟩ (.int .i64 (nx : Nat))).setCell ⟨g0, 1, none⟩ (.int .u64 (bs : Nat))) g0 (.cells #[.int .i64 (nx : Nat), .int .u64 (bs : Nat)] 89) := hp_set (hp_set X3.out 0 _) 1 _
    have B4 := Lib.hid (B3.out.stP T4 (fun k hk => by obtain rfl : k = g0 := (by simpa using hk); exact Nat.le_of_eq hg0.out.symm))
    have z0 := (hp_cell X4 0).trans (show _ = some (.int .i64 (nx : Nat)) from rfl)
    have z1 := (hp_cell X4 1).trans (show _ = some (.int .u64 (bs : Nat)) from rfl)
    replace T4 := Lib.hid T4
    replace X4 := Lib.hid X4
    replace z0 := Lib.hid z0
    replace z1 := Lib.hid z1
    go_wp2_with fail
    have z0' := z0.out
    have z1' := z1.out
    refine bodyPost_ret (v := _) ?_ rfl ⟨rfl, B4.out⟩
    simp [results, Try.results32, go_sem, z0', z1']
  rw [decide_eq_false h1]
  have hE2 := hE.out
  rw [if_neg h1] at hE2
  clear h1 hE
  have n3 := hln w3 B3.out
  clear hln
  have m3 := hmap w3 B3.out
  cases has with
  | true =>
    rw [if_neg (by simp)] at hE2
    have hE := Lib.hid hE2
    clear hE2 n3 m3
    go_upto_region 7 with (fail)
    by_cases h3 : (281474976710656 : Int) ≤ ix
    · have d3 := decide_eq_true h3
      have hR := hE.out
      rw [if_pos h3] at hR
      subst hR
      clear h3 hE cF
      have q0 := (hp_cell Y3.out 0).trans (show _ = some (.int .i64 (nx : Nat)) from rfl)
      have q1 := (hp_cell Y3.out 1).trans (show _ = some (.int .u64 (bs : Nat)) from rfl)
      have p0 := (hp_cell X3.out 0).trans (show _ = some (.int .i64 0) from rfl)
      have p1 := (hp_cell X3.out 1).trans (show _ = some (.int .u64 0) from rfl)
      have f0 := hp_frz X3.out 0
      have f1 := hp_frz X3.out 1
      have T4 := (still_sc w3 g0 0 (.int .i64 (nx : Nat))).trans (still_sc _ g0 1 (.int .u64 (bs : Nat)))
      have X4 : HpB ((w3.setCell ⟨g0, 0, none⟩ (.int .i64 (nx : Nat))).setCell ⟨g0, 1, none⟩ (.int .u64 (bs : Nat))) g0 (.cells #[.int .i64 (nx : Nat), .int .u64 (bs : Nat)] 89) := hp_set (hp_set X3.out 0 _) 1 _
      have B4 := Lib.hid (B3.out.stP T4 (fun k hk => by obtain rfl : k = g0 := (by simpa using hk); exact Nat.le_of_eq hg0.out.symm))
      have z0 := (hp_cell X4 0).trans (show _ = some (.int .i64 (nx : Nat)) from rfl)
      have z1 := (hp_cell X4 1).trans (show _ = some (.int .u64 (bs : Nat)) from rfl)
      replace T4 := Lib.hid T4
      replace X4 := Lib.hid X4
      replace z0 := Lib.hid z0
      replace z1 := Lib.hid z1
      go_wp2_with fail
      have z0' := z0.out
      have z1' := z1.out
      refine bodyPost_ret (v := _) ?_ rfl ⟨rfl, B4.out⟩
      simp [results, Try.results32, go_sem, z0', z1']
    have d3 := decide_eq_false h3
    have hE1 := hE.out
    rw [if_neg h3] at hE1
    clear h3 hE
    go_wp2_with fail
    refine Calls.mono (cF w3 g1 ix hix.out Y3.out).out ?_
    rintro e w' ⟨rfl, rfl⟩
    clear cF d3
    dsimp only
    cases hf : wFresh nx bs ix with
    | false =>
      rw [if_pos hf] at hE1
      subst hE1
      clear hf
      have q0 := (hp_cell Y3.out 0).trans (show _ = some (.int .i64 (nx : Nat)) from rfl)
      have q1 := (hp_cell Y3.out 1).trans (show _ = some (.int .u64 (bs : Nat)) from rfl)
      have p0 := (hp_cell X3.out 0).trans (show _ = some (.int .i64 0) from rfl)
      have p1 := (hp_cell X3.out 1).trans (show _ = some (.int .u64 0) from rfl)
      have f0 := hp_frz X3.out 0
      have f1 := hp_frz X3.out 1
      have T4 := (still_sc w3 g0 0 (.int .i64 (nx : Nat))).trans (still_sc _ g0 1 (.int .u64 (bs : Nat)))
      have X4 : HpB ((w3.setCell ⟨g0, 0, none⟩ (.int .i64 (nx : Nat))).setCell ⟨g0, 1, none⟩ (.int .u64 (bs : Nat))) g0 (.cells #[.int .i64 (nx : Nat), .int .u64 (bs : Nat)] 89) := hp_set (hp_set X3.out 0 _) 1 _
      have B4 := Lib.hid (B3.out.stP T4 (fun k hk => by obtain rfl : k = g0 := (by simpa using hk); exact Nat.le_of_eq hg0.out.symm))
      have z0 := (hp_cell X4 0).trans (show _ = some (.int .i64 (nx : Nat)) from rfl)
      have z1 := (hp_cell X4 1).trans (show _ = some (.int .u64 (bs : Nat)) from rfl)
      replace T4 := Lib.hid T4
      replace X4 := Lib.hid X4
      replace z0 := Lib.hid z0
      replace z1 := Lib.hid z1
      go_wp2_with fail
      have z0' := z0.out
      have z1' := z1.out
      refine bodyPost_ret (v := _) ?_ rfl ⟨rfl, B4.out⟩
      simp [results, Try.results32, go_sem, z0', z1']
    | true =>
      rw [if_neg (by rw [hf]; simp)] at hE1
      subst hE1
      clear hf
      have q0 := (hp_cell Y3.out 0).trans (show _ = some (.int .i64 (nx : Nat)) from rfl)
      have q1 := (hp_cell Y3.out 1).trans (show _ = some (.int .u64 (bs : Nat)) from rfl)
      have p0 := (hp_cell X3.out 0).trans (show _ = some (.int .i64 0) from rfl)
      have p1 := (hp_cell X3.out 1).trans (show _ = some (.int .u64 0) from rfl)
      have f0 := hp_frz X3.out 0
      have f1 := hp_frz X3.out 1
      have T4 := (still_sc w3 g0 0 (.int .i64 (nx : Nat))).trans (still_sc _ g0 1 (.int .u64 (bs : Nat)))
      have X4 : HpB ((w3.setCell ⟨g0, 0, none⟩ (.int .i64 (nx : Nat))).setCell ⟨g0, 1, none⟩ (.int .u64 (bs : Nat))) g0 (.cells #[.int .i64 (nx : Nat), .int .u64 (bs : Nat)] 89) := hp_set (hp_set X3.out 0 _) 1 _
      have B4 := Lib.hid (B3.out.stP T4 (fun k hk => by obtain rfl : k = g0 := (by simpa using hk); exact Nat.le_of_eq hg0.out.symm))
      have z0 := (hp_cell X4 0).trans (show _ = some (.int .i64 (nx : Nat)) from rfl)
      have z1 := (hp_cell X4 1).trans (show _ = some (.int .u64 (bs : Nat)) from rfl)
      replace T4 := Lib.hid T4
      replace X4 := Lib.hid X4
      replace z0 := Lib.hid z0
      replace z1 := Lib.hid z1
      go_wp2_with fail
      have z0' := z0.out
      have z1' := z1.out
      refine bodyPost_ret (v := _) ?_ rfl ⟨rfl, B4.out⟩
      simp [results, Try.results32, go_sem, z0', z1']
  | false =>
    by_cases h2 : 8 ≤ ml
    · rw [if_pos ⟨rfl, h2⟩] at hE2
      have d2 : decide ((8 : Int) ≤ (ml : Int)) = true := by simp; omega
      subst hE2
      clear h2 cF
      have q0 := (hp_cell Y3.out 0).trans (show _ = some (.int .i64 (nx : Nat)) from rfl)
      have q1 := (hp_cell Y3.out 1).trans (show _ = some (.int .u64 (bs : Nat)) from rfl)
      have p0 := (hp_cell X3.out 0).trans (show _ = some (.int .i64 0) from rfl)
      have p1 := (hp_cell X3.out 1).trans (show _ = some (.int .u64 0) from rfl)
      have f0 := hp_frz X3.out 0
      have f1 := hp_frz X3.out 1
      have T4 := (still_sc w3 g0 0 (.int .i64 (nx : Nat))).trans (still_sc _ g0 1 (.int .u64 (bs : Nat)))
      have X4 : HpB ((w3.setCell ⟨g0, 0, none⟩ (.int .i64 (nx : Nat))).setCell ⟨g0, 1, none⟩ (.int .u64 (bs : Nat))) g0 (.cells #[.int .i64 (nx : Nat), .int .u64 (bs : Nat)] 89) := hp_set (hp_set X3.out 0 _) 1 _
      have B4 := Lib.hid (B3.out.stP T4 (fun k hk => by obtain rfl : k = g0 := (by simpa using hk); exact Nat.le_of_eq hg0.out.symm))
      have z0 := (hp_cell X4 0).trans (show _ = some (.int .i64 (nx : Nat)) from rfl)
      have z1 := (hp_cell X4 1).trans (show _ = some (.int .u64 (bs : Nat)) from rfl)
      replace T4 := Lib.hid T4
      replace X4 := Lib.hid X4
      replace z0 := Lib.hid z0
      replace z1 := Lib.hid z1
      go_wp2_with fail
      have z0' := z0.out
      have z1' := z1.out
      refine bodyPost_ret (v := _) ?_ rfl ⟨rfl, B4.out⟩
      simp [results, Try.results32, go_sem, z0', z1']
    · rw [if_neg (fun hh => h2 hh.2)] at hE2
      have d2 : decide ((8 : Int) ≤ (ml : Int)) = false := by simp; omega
      have hE := Lib.hid hE2
      clear hE2 h2
      go_upto_region 7 with (fail)
      clear n3 m3 d2
      by_cases h3 : (281474976710656 : Int) ≤ ix
      · have d3 := decide_eq_true h3
        have hR := hE.out
        rw [if_pos h3] at hR
        subst hR
        clear h3 hE cF
        have q0 := (hp_cell Y3.out 0).trans (show _ = some (.int .i64 (nx : Nat)) from rfl)
        have q1 := (hp_cell Y3.out 1).trans (show _ = some (.int .u64 (bs : Nat)) from rfl)
        have p0 := (hp_cell X3.out 0).trans (show _ = some (.int .i64 0) from rfl)
        have p1 := (hp_cell X3.out 1).trans (show _ = some (.int .u64 0) from rfl)
        have f0 := hp_frz X3.out 0
        have f1 := hp_frz X3.out 1
        have T4 := (still_sc w3 g0 0 (.int .i64 (nx : Nat))).trans (still_sc _ g0 1 (.int .u64 (bs : Nat)))
        have X4 : HpB ((w3.setCell ⟨g0, 0, none⟩ (.int .i64 (nx : Nat))).setCell ⟨g0, 1, none⟩ (.int .u64 (bs : Nat))) g0 (.cells #[.int .i64 (nx : Nat), .int .u64 (bs : Nat)] 89) := hp_set (hp_set X3.out 0 _) 1 _
        have B4 := Lib.hid (B3.out.stP T4 (fun k hk => by obtain rfl : k = g0 := (by simpa using hk); exact Nat.le_of_eq hg0.out.symm))
        have z0 := (hp_cell X4 0).trans (show _ = some (.int .i64 (nx : Nat)) from rfl)
        have z1 := (hp_cell X4 1).trans (show _ = some (.int .u64 (bs : Nat)) from rfl)
        replace T4 := Lib.hid T4
        replace X4 := Lib.hid X4
        replace z0 := Lib.hid z0
        replace z1 := Lib.hid z1
        go_wp2_with fail
        have z0' := z0.out
        have z1' := z1.out
        refine bodyPost_ret (v := _) ?_ rfl ⟨rfl, B4.out⟩
        simp [results, Try.results32, go_sem, z0', z1']
      have d3 := decide_eq_false h3
      have hE1 := hE.out
      rw [if_neg h3] at hE1
      clear h3 hE
      go_wp2_with fail
      refine Calls.mono (cF w3 g1 ix hix.out Y3.out).out ?_
      rintro e w' ⟨rfl, rfl⟩
      clear cF d3
      dsimp only
      cases hf : wFresh nx bs ix with
      | false =>
        rw [if_pos hf] at hE1
        subst hE1
        clear hf
        have q0 := (hp_cell Y3.out 0).trans (show _ = some (.int .i64 (nx : Nat)) from rfl)
        have q1 := (hp_cell Y3.out 1).trans (show _ = some (.int .u64 (bs : Nat)) from rfl)
        have p0 := (hp_cell X3.out 0).trans (show _ = some (.int .i64 0) from rfl)
        have p1 := (hp_cell X3.out 1).trans (show _ = some (.int .u64 0) from rfl)
        have f0 := hp_frz X3.out 0
        have f1 := hp_frz X3.out 1
        have T4 := (still_sc w3 g0 0 (.int .i64 (nx : Nat))).trans (still_sc _ g0 1 (.int .u64 (bs : Nat)))
        have X4 : HpB ((w3.setCell ⟨g0, 0, none⟩ (.int .i64 (nx : Nat))).setCell ⟨g0, 1, none⟩ (.int .u64 (bs : Nat))) g0 (.cells #[.int .i64 (nx : Nat), .int .u64 (bs : Nat)] 89) := hp_set (hp_set X3.out 0 _) 1 _
        have B4 := Lib.hid (B3.out.stP T4 (fun k hk => by obtain rfl : k = g0 := (by simpa using hk); exact Nat.le_of_eq hg0.out.symm))
        have z0 := (hp_cell X4 0).trans (show _ = some (.int .i64 (nx : Nat)) from rfl)
        have z1 := (hp_cell X4 1).trans (show _ = some (.int .u64 (bs : Nat)) from rfl)
        replace T4 := Lib.hid T4
        replace X4 := Lib.hid X4
        replace z0 := Lib.hid z0
        replace z1 := Lib.hid z1
        go_wp2_with fail
        have z0' := z0.out
        have z1' := z1.out
        refine bodyPost_ret (v := _) ?_ rfl ⟨rfl, B4.out⟩
        simp [results, Try.results32, go_sem, z0', z1']
      | true =>
        rw [if_neg (by rw [hf]; simp)] at hE1
        subst hE1
        clear hf
        have q0 := (hp_cell Y3.out 0).trans (show _ = some (.int .i64 (nx : Nat)) from rfl)
        have q1 := (hp_cell Y3.out 1).trans (show _ = some (.int .u64 (bs : Nat)) from rfl)
        have p0 := (hp_cell X3.out 0).trans (show _ = some (.int .i64 0) from rfl)
        have p1 := (hp_cell X3.out 1).trans (show _ = some (.int .u64 0) from rfl)
        have f0 := hp_frz X3.out 0
        have f1 := hp_frz X3.out 1
        have T4 := (still_sc w3 g0 0 (.int .i64 (nx : Nat))).trans (still_sc _ g0 1 (.int .u64 (bs : Nat)))
        have X4 : HpB ((w3.setCell ⟨g0, 0, none⟩ (.int .i64 (nx : Nat))).setCell ⟨g0, 1, none⟩ (.int .u64 (bs : Nat))) g0 (.cells #[.int .i64 (nx : Nat), .int .u64 (bs : Nat)] 89) := hp_set (hp_set X3.out 0 _) 1 _
        have B4 := Lib.hid (B3.out.stP T4 (fun k hk => by obtain rfl : k = g0 := (by simpa using hk); exact Nat.le_of_eq hg0.out.symm))
        have z0 := (hp_cell X4 0).trans (show _ = some (.int .i64 (nx : Nat)) from rfl)
        have z1 := (hp_cell X4 1).trans (show _ = some (.int .u64 (bs : Nat)) from rfl)
        replace T4 := Lib.hid T4
        replace X4 := Lib.hid X4
        replace z0 := Lib.hid z0
        replace z1 := Lib.hid z1
        go_wp2_with fail
        have z0' := z0.out
        have z1' := z1.out
        refine bodyPost_ret (v := _) ?_ rfl ⟨rfl, B4.out⟩
        simp [results, Try.results32, go_sem, z0', z1']
end Go.Proofs.Ytikmhlbpefednaa
