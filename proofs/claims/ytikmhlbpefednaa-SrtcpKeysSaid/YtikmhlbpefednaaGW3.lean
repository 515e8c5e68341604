/- srtcp: what a way answers to any bytes, as plain data; to what a way has sealed. No condition. srtcp.Way: Open. No condition but the sizes'. The document's example of control packets sealed: its plain data. No condition. The document's example of control packets sealed. No condition. The law SrtcpKeys. No condition. -/
import Derived.Test.YtikmhlbpefednaaGW2
import Derived.Test.YtikmhlbpefednaaGS2
import Derived.Test.YtikmhlbpefednaaGW4
import Derived.Test.YtikmhlbpefednaaGW1
import Derived.Test.YtikmhlbpefednaaGW5
import Derived.Test.YtikmhlbpefednaaAin
import Derived.Test.YtikmhlbpefednaaGBa
namespace Go.Proofs.Ytikmhlbpefednaa
open Go.RowKit

/-- The error that a way answers to bytes, ahead of their being read. -/
def copenE (K : List Nat) (lim : Int) (used : Nat) (M : List (Nat × Nat × Nat)) (b : List Nat) : Nat :=
  if 1200 < b.length then 3
  else if b.length < 22 then 2
  else if nm b (b.length - 14) 4 < 2 ^ 31 then 3
  else if cfreshE lim used M (nm b 4 4) (nm b (b.length - 14) 4 - 2 ^ 31) ≠ 0 then cfreshE lim used M (nm b 4 4) (nm b (b.length - 14) 4 - 2 ^ 31)
  else if b.drop (b.length - 10) ≠ tagC K (b.take (b.length - 10)) then 4
  else 0
/-- What is read then. -/
def copenT (K b : List Nat) : List Nat := b.take 8 ++ spinC K (nm b (b.length - 14) 4 - 2 ^ 31) (b.take (b.length - 14))
theorem csealB_len (K B : List Nat) (i : Nat) (h8 : 8 ≤ B.length) : (csealB K B i).length = B.length + 14 := by
  unfold csealB
  rw [List.length_append, csealM_len K B i h8, tagC_len]
theorem cseal_take (K B : List Nat) (i : Nat) (h8 : 8 ≤ B.length) : (csealB K B i).take (B.length + 4) = csealM K B i := by
  unfold csealB
  exact List.take_left' (csealM_len K B i h8)
theorem cseal_drop (K B : List Nat) (i : Nat) (h8 : 8 ≤ B.length) : (csealB K B i).drop (B.length + 4) = tagC K (csealM K B i) := by
  unfold csealB
  exact List.drop_left' (csealM_len K B i h8)
theorem csealM_take (K B : List Nat) (i : Nat) : (csealM K B i).take B.length = B.take 8 ++ spinC K i B := by
  unfold csealM
  rw [List.flatten_cons, List.flatten_cons, List.flatten_cons, List.flatten_nil, List.append_nil, ← List.append_assoc]
  exact List.take_left' (by simp only [spinC, List.length_append, cipN_len, List.length_take, List.length_drop]; omega)
theorem csealM_drop (K B : List Nat) (i : Nat) : (csealM K B i).drop B.length = putB 4 (2147483648 + i) := by
  unfold csealM
  rw [List.flatten_cons, List.flatten_cons, List.flatten_cons, List.flatten_nil, List.append_nil, ← List.append_assoc]
  exact List.drop_left' (by simp only [spinC, List.length_append, cipN_len, List.length_take, List.length_drop]; omega)
theorem cseal_num (K B : List Nat) (i : Nat) (h8 : 8 ≤ B.length) (hi : i < 2 ^ 31) : nm (csealB K B i) B.length 4 = 2 ^ 31 + i := by
  rw [← nm_take _ (B.length + 4) _ _ (Nat.le_refl _), cseal_take K B i h8]
  unfold nm
  rw [csealM_drop, List.take_of_length_le (by rw [putB_len]; omega), numB_putB]
  omega
theorem cseal_src (K B : List Nat) (i : Nat) (h8 : 8 ≤ B.length) : nm (csealB K B i) 4 4 = nm B 4 4 := by
  rw [← nm_take _ (B.length + 4) _ _ (by omega), cseal_take K B i h8, ← nm_take _ B.length _ _ (by omega), csealM_take, ← nm_take (B.take 8 ++ _) 8 4 4 (Nat.le_refl _), List.take_left' (by rw [List.length_take]; omega), nm_take _ _ _ _ (by omega)]
theorem copenE_seal (K B : List Nat) (i : Nat) (h8 : 8 ≤ B.length) (hb : B.length ≤ 1000) (hi : i < 2 ^ 31) (lim : Int) (used : Nat) (M : List (Nat × Nat × Nat)) : copenE K lim used M (csealB K B i) = cfreshE lim used M (nm B 4 4) i := by
  unfold copenE
  have h := csealB_len K B i (by omega)
  have e : (csealB K B i).length - 14 = B.length := by omega
  rw [e, h, if_neg (by omega), if_neg (by omega), cseal_num K B i (by omega) hi, if_neg (by omega), cseal_src K B i (by omega), Nat.add_sub_cancel_left, show B.length + 14 - 10 = B.length + 4 by omega, cseal_take K B i (by omega), cseal_drop K B i (by omega)]
  split
  · rfl
  · rename_i h0
    simp only [ne_eq, Decidable.not_not] at h0
    rw [if_neg (fun h => h rfl), h0]
theorem copenT_seal (K B : List Nat) (i : Nat) (h8 : 8 ≤ B.length) (hi : i < 2 ^ 31) : copenT K (csealB K B i) = B := by
  unfold copenT
  have h := csealB_len K B i h8
  have e : (csealB K B i).length - 14 = B.length := by omega
  have e8 : (csealB K B i).take 8 = B.take 8 := by
    have h1 : ((csealB K B i).take (B.length + 4)).take B.length = B.take 8 ++ spinC K i B := by rw [cseal_take K B i h8, csealM_take]
    have h2 := congrArg (List.take 8) h1
    rw [List.take_take, List.take_take, Nat.min_eq_left (by omega), Nat.min_eq_left (by omega), List.take_left' (by rw [List.length_take]; omega)] at h2
    exact h2
  have eB : (csealB K B i).take B.length = B.take 8 ++ spinC K i B := by
    have h1 : ((csealB K B i).take (B.length + 4)).take B.length = B.take 8 ++ spinC K i B := by rw [cseal_take K B i h8, csealM_take]
    rw [List.take_take, Nat.min_eq_left (by omega)] at h1
    exact h1
  rw [e, e8, eB, cseal_num K B i h8 hi, Nat.add_sub_cancel_left]
  have es : nm (B.take 8 ++ spinC K i B) 4 4 = nm B 4 4 := by
    rw [← nm_take (B.take 8 ++ _) 8 4 4 (Nat.le_refl _), List.take_left' (by rw [List.length_take]; omega), nm_take _ _ _ _ (by omega)]
  have ed : (B.take 8 ++ spinC K i B).drop 8 = spinC K i B := List.drop_left' (by rw [List.length_take]; omega)
  have e2 : spinC K i (B.take 8 ++ spinC K i B) = B.drop 8 := by
    have e3 : spinC K i (B.take 8 ++ spinC K i B) = cipN (wordsN (mid K 0 16)) (numB (firstN (mid K 36 14) (nm (B.take 8 ++ spinC K i B) 4 4) i)) ((B.take 8 ++ spinC K i B).drop 8) := rfl
    rw [e3, es, ed]
    unfold spinC
    exact cipN_twice _ _ _
  rw [e2, List.take_append_drop]
end Go.Proofs.Ytikmhlbpefednaa

namespace Go.Proofs.Ytikmhlbpefednaa
open Go.RowKit

theorem SM.sole (w : World) (x : Value) (ln : Nat) (l : List Nat) (h : SB w x ln l) : SM (w.alloc (.cells #[x] 22)) (.slice (some ⟨w.heap.size, 0, none⟩) 1 1) 1 [l] := by
  refine ⟨rfl, [x], ⟨rfl, by decide, .inr ⟨w.heap.size, 0, 1, rfl, Nat.le_refl _, by decide, by simp, fun j hj => ?_⟩⟩, fun i y hy => ?_⟩
  · obtain rfl : j = 0 := by omega
    simp [go_sem]
  · match i, hy with
    | 0, hy => simp at hy; subst hy; exact ⟨ln, h.alloc _⟩
    | i + 1, hy => simp at hy
theorem SB.ownlt {w : World} {v : Value} {n : Nat} {l : List Nat} (h : SB w v n l) (h0 : 0 < n) (k : Nat) (hk : v.ownBlock = some k) : k < w.heap.size := by
  obtain ⟨b, o, cap, rfl, _, _, h3, _⟩ := h.2.2.form h0
  obtain rfl : b = k := by simpa [Value.ownBlock] using hk
  exact h3
theorem Still.ow2 {S0 S : List Nat} {a b c : World} (T : Still S0 a b) (h : Still S b c) (hS : ∀ k ∈ S, k ∈ S0 ∨ a.heap.size ≤ k) : Still S0 a c := by
  refine ⟨h.os.trans T.os, h.tape.trans T.tape, h.output.trans T.output, Nat.le_trans T.size h.size, fun k hk hs => ?_⟩
  rw [h.block k (Nat.lt_of_lt_of_le hk T.size) (fun hm => (hS k hm).elim hs (fun hl => Nat.lt_irrefl _ (Nat.lt_of_lt_of_le hk hl))), T.block k hk hs]

theorem CwV.use {w : World} {g : Nat} {K : List Nat} {lim : Int} {used nxt gm : Nat} {M : List (Nat × Nat × Nat)} (h : CwV w g K lim used nxt gm M) : CwV (w.setCell ⟨g, 51, none⟩ (.int .i64 ((used + 1 : Nat) : Int))) g K lim (used + 1) nxt gm M := by
  refine ⟨?_, h.len, h.byt, h.mp.still (still_sc w g 51 _) (by simpa using h.ne.symm)⟩
  have e : (cwayC K lim used nxt gm).setIfInBounds 51 (.int .i64 ((used + 1 : Nat) : Int)) = cwayC K lim (used + 1) nxt gm := by
    apply Array.ext'
    simp only [cwayC, Array.toList_setIfInBounds, Array.toList_append]
    rw [List.set_append_right _ _ (by simp [ivA, h.len])]
    simp [ivA, h.len]
  have := hp_set h.hp 51 (.int .i64 ((used + 1 : Nat) : Int))
  rw [e] at this
  exact this
theorem cfresh_in {lim : Int} {used : Nat} {M : List (Nat × Nat × Nat)} {src i : Nat} (h : cfreshE lim used M src i = 0) : wFresh (getW M src).1 (getW M src).2 i = true := by
  unfold cfreshE at h
  by_cases h1 : lim ≤ (used : Int)
  · rw [if_pos h1] at h; cases h
  rw [if_neg h1] at h
  by_cases h2 : hasW M src = false ∧ 8 ≤ M.length
  · rw [if_pos h2] at h; cases h
  rw [if_neg h2] at h
  by_cases h3 : wFresh (getW M src).1 (getW M src).2 i = false
  · rw [if_pos h3] at h; cases h
  simpa using h3
theorem goodC (K m t : List Nat) (h : t.length = 10) : goodB (mid K 16 20) m t = decide (t = tagC K m) := by
  unfold goodB tagC
  rw [h]
  simp
/-- What Open answers: an error, and nothing is turned; or packets, and a window is marked. -/
inductive CopenPost (g : Nat) (K : List Nat) (lim : Int) (used nxt gm : Nat) (M : List (Nat × Nat × Nat)) (E src i : Nat) (L : List Ctl) (w : World) (e : Ending) (w' : World) : Prop
  | no (h : E ≠ 0) (he : e = .returned (.tuple #[.slice none 0 0, .int .u32 0, .int .i64 (E : Nat)])) (hb : BW w w')
  | yes (h : E = 0) (s : Option Addr) (c : Nat) (he : e = .returned (.tuple #[.slice s L.length c, .int .u32 (src : Nat), .int .i64 0])) (ho : EQ EC 69 w' w.heap.size (.slice s L.length c) L.length L) (hw : CwV w' g K lim (used + 1) nxt gm (setW M src (wMark (getW M src).1 (getW M src).2 i))) (ht : Still [g, gm] w w')
set_option maxRecDepth 100000 in
set_option maxHeartbeats 8000000 in
theorem copen_ok (g : Nat) (K : List Nat) (lim : Int) (used nxt gm : Nat) (M : List (Nat × Nat × Nat)) (sb : Option Addr) (n cb : Nat) (b : List Nat) (L : List Ctl) (hM : MOk M) (hn : n ≤ 1000000) (hu : used ≤ 1000000) (w : World) (hW : CwV w g K lim used nxt gm M) (hv : SB w (.slice sb n cb) n b) (hvo : ∀ k, (Value.slice sb n cb).ownBlock = some k → k ≠ g ∧ k ≠ gm)
    (cR : copenE K lim used M b = 0 → ∀ wz v, SB wz v (n - 14) (copenT K b) → Calls Try.prog 65 #[v] wz fun e w' => ∃ so co, e = .returned (.tuple #[.slice so L.length co, .int .i64 0]) ∧ EQ EC 69 w' wz.heap.size (.slice so L.length co) L.length L ∧ BW wz w') :
    Calls Try.prog 39 #[.pointer (some ⟨g, 0, none⟩), .slice sb n cb] w (CopenPost g K lim used nxt gm M (copenE K lim used M b) (nm b 4 4) (nm b (b.length - 14) 4 - 2 ^ 31) L w) := by
  obtain ⟨_, _, he, hcb, hmb⟩ := hv.len
  cases he
  unfold maxLen at hmb
  have hbl : b.length = n := hv.1
  rw [hbl]
  have hnm4 := nm_lt b hv.2.1 4 4
  have hnmi := nm_lt b hv.2.1 (n - 14) 4
  have hWW := Lib.hid hW
  have hVV := Lib.hid hv
  have hg := Lib.hid hW.hp.lt
  have hgm := Lib.hid hW.mp.lt
  have hMM := Lib.hid hM
  have hown : Hid (∀ m k, (Value.slice sb m cb).ownBlock = some k → 0 < n → k ≠ g ∧ k ≠ gm ∧ k < w.heap.size) := fun m k hk h0 => by
    have hk' : (Value.slice sb n cb).ownBlock = some k := by
      revert hk
      cases sb <;> simp [Value.ownBlock]
    exact ⟨(hvo k hk').1, (hvo k hk').2, hv.ownlt h0 k hk'⟩
  have hE : copenE K lim used M b = copenE K lim used M b := rfl
  conv at hE => rhs; unfold copenE
  rw [hbl] at hE
  have hT : copenT K b = b.take 8 ++ spinC K (nm b (n - 14) 4 - 2 ^ 31) (b.take (n - 14)) := by unfold copenT; rw [hbl]
  generalize copenE K lim used M b = E at *
  generalize copenT K b = T at *
  clear hW hv hM hvo
  replace hE := Lib.hid hE
  replace hT := Lib.hid hT
  replace cR := Lib.hid cR
  replace hbl := Lib.hid hbl
  by_cases h1 : 1200 < n
  · have d1 : decide ((1200 : Int) < (n : Int)) = true := by simp; omega
    have hR := hE.out.trans (if_pos h1)
    subst hR
    clear hE hT hg hgm hMM cR
    go_enter Try.func39, Try.ntmps39
    go_wp2_with fail
    go_ret3
    exact .no (by decide) rfl (BW.refl w)
  have d1 : decide ((1200 : Int) < (n : Int)) = false := by simp; omega
  have hE1 := hE.out.trans (if_neg h1)
  clear hE
  by_cases h2 : n < 22
  · have d2 : decide ((n : Int) < 22) = true := by simp; omega
    have hR := hE1.trans (if_pos h2)
    subst hR
    clear hE1 hT hg hgm hMM cR
    go_enter Try.func39, Try.ntmps39
    go_wp2_with fail
    go_ret3
    exact .no (by decide) rfl (BW.refl w)
  have d2 : decide ((n : Int) < 22) = false := by simp; omega
  have hE2 := hE1.trans (if_neg h2)
  clear hE1
  have hn22 : 22 ≤ n := by omega
  have hn1200 : n ≤ 1200 := by omega
  clear h1 h2
  have V1 := Lib.hid (hVV.out.takeW (n - 10) (by omega))
  have V2 := Lib.hid (hVV.out.dropW (n - 10) (by omega))
  have V3 := Lib.hid (hVV.out.takeW (n - 14) (by omega))
  have e10 : ((n : Int) - 10) = ((n - 10 : Nat) : Int) := by omega
  have e14 : (((n - 10 : Nat) : Int) - 4) = ((n - 14 : Nat) : Int) := by omega
  have cN := fun wz (h : BW w wz) => Lib.hid (num_ok (.slice sb (n - 10) cb) (n - 10) (b.take (n - 10)) (n - 14) 4 ((n - 14 : Nat) : Int) 4 (by decide) (by decide) (by omega) rfl rfl wz (V1.out.bw h))
  rw [show numB (((b.take (n - 10)).drop (n - 14)).take 4) = nm (b.take (n - 10)) (n - 14) 4 from rfl, nm_take _ _ _ _ (by omega)] at cN
  have cS := fun wz (h : BW w wz) => Lib.hid (csource_ok sb n cb b (by omega) wz (hVV.out.bw h))
  have hb1 := Lib.hid V1.out.1
  have hb3 := Lib.hid V3.out.1
  have hTs := hT.out
  have hsrcT : nm (b.take (n - 14)) 4 4 = nm b 4 4 := nm_take _ _ _ _ (by omega)
  have e8 : (b.take (n - 14)).take 8 = b.take 8 := by rw [List.take_take, Nat.min_eq_left (by omega)]
  generalize b.take (n - 10) = b1 at *
  generalize b.drop (n - 10) = b2 at *
  generalize b.take (n - 14) = b3 at *
  generalize hq : n - 10 = q at *
  generalize hr : n - 14 = r at *
  generalize nm b 4 4 = src at *
  generalize hI : nm b r 4 - 2 ^ 31 = i at *
  generalize nm b r 4 = N at *
  replace hI := Lib.hid hI
  have hcH := fun w => run_cut_h (P := Try.prog) Try.underlying22 info_u8 sb q cb r (r : Int) rfl .i64 (by omega) w
  have hN2 : (N : Int) ≤ 4294967295 := by omega
  have hr12 : (r : Int) ≤ 1186 := by omega
  have hq8 : Hid (8 ≤ r ∧ r ≤ q ∧ q ≤ n ∧ q ≤ 1200 ∧ q ≤ cb ∧ r ≤ cb) := by show _ ∧ _; omega
  replace hE2 := Lib.hid hE2
  replace e10 := Lib.hid e10
  replace hq := Lib.hid hq
  replace hr := Lib.hid hr
  replace hTs := Lib.hid hTs
  replace hsrcT := Lib.hid hsrcT
  replace e8 := Lib.hid e8
  go_enter Try.func39, Try.ntmps39
  go_upto_region 5 with (fail)
  refine wp_region_gg [] [] [] (by kernel_rfl) ?_
  refine hoist [] [] (a1 := ?_) 0 rfl (by kernel_rfl) (.inl ⟨rfl, rfl⟩) rfl rfl rfl (fun x K hK => ?_) ?_
  rotate_left
  · go_big_quiet_op
    exact hK
  refine hoist [] [] (a1 := ?_) 1 rfl (by kernel_rfl) (.inl ⟨rfl, rfl⟩) rfl rfl rfl (fun x K hK => ?_) ?_
  rotate_left
  · go_big_quiet_op
    exact hK
  refine hoist [] [] (a1 := ?_) 2 rfl (by kernel_rfl) (.inl ⟨rfl, rfl⟩) rfl rfl rfl (fun x K hK => ?_) ?_
  rotate_left
  · go_big_quiet_op
    exact hK
  refine hoist [] [] (a1 := ?_) 3 rfl (by kernel_rfl) (.inl ⟨rfl, rfl⟩) rfl rfl rfl (fun x K hK => ?_) ?_
  rotate_left
  · go_big_quiet_op
    exact hK
  refine hoist [] [] (a1 := ?_) 4 rfl (by kernel_rfl) (.inl ⟨rfl, rfl⟩) rfl rfl rfl (fun x K hK => ?_) ?_
  rotate_left
  · refine qlCutH (hi := q) rfl (by rfl) (by rfl) e10.out (by have := hq8.out; omega) (by simp only [Act.put, List.setIfInBounds_toArray, List.set_cons_succ, List.set_cons_zero]; rfl) ?_
    exact hK
  refine hoist [] [] (a1 := ?_) 5 rfl (by kernel_rfl) (.inl ⟨rfl, rfl⟩) rfl rfl rfl (fun x K hK => ?_) ?_
  rotate_left
  · go_big_quiet_op
    exact hK
  refine hoist [] [] (a1 := ?_) 6 rfl (by kernel_rfl) (.inl ⟨rfl, rfl⟩) rfl rfl rfl (fun x K hK => ?_) ?_
  rotate_left
  · go_big_quiet_op
    exact hK
  refine hoist [] [] (a1 := ?_) 7 rfl (by kernel_rfl) (.inl ⟨rfl, rfl⟩) rfl rfl rfl (fun x K hK => ?_) ?_
  rotate_left
  · go_big_quiet_op
    exact hK
  refine hoist [] [] (a1 := ?_) 8 rfl (by kernel_rfl) (.inl ⟨rfl, rfl⟩) rfl rfl rfl (fun x K hK => ?_) ?_
  rotate_left
  · go_big_quiet_op
    exact hK
  refine hoist [] [] (a1 := ?_) 9 rfl (by kernel_rfl) (.inl ⟨rfl, rfl⟩) rfl rfl rfl (fun x K hK => ?_) ?_
  rotate_left
  · refine qlCutL (lo := q) rfl (by rfl) (by rfl) e10.out (by have := hq8.out; omega) (by simp only [Act.put, List.setIfInBounds_toArray, List.set_cons_succ, List.set_cons_zero]; rfl) ?_
    exact hK
  refine hoist [] [] (a1 := ?_) 10 rfl (by kernel_rfl) (.inl ⟨rfl, rfl⟩) rfl rfl rfl (fun x K hK => ?_) ?_
  rotate_left
  · go_big_quiet_op
    exact hK
  refine hoist [] [] (a1 := ?_) 11 rfl (by kernel_rfl) (.inl ⟨rfl, rfl⟩) rfl rfl rfl (fun x K hK => ?_) ?_
  rotate_left
  · go_big_quiet_op
    exact hK
  refine done (by kernel_rfl) (fun xr => ?_)
  have B1 := Lib.hid xr.bw
  generalize xr.now = w1 at *
  have hz : Hid (n - q = 10) := by have := hq.out; show _ = _; omega
  generalize n - q = z at *
  generalize cutA sb q cb 1 = sb2 at *
  generalize cb - q = cb2 at *
  go_wp2_with fail
  refine Calls.mono (cN w1 B1.out).out ?_
  rintro e w' ⟨rfl, rfl⟩
  dsimp only
  clear cN
  by_cases h3 : N < 2 ^ 31
  · have d3 : decide ((N : Int) < 2147483648) = true := by simp; omega
    have hR := hE2.out.trans (if_pos h3)
    subst hR
    clear hE2 hg hgm hMM cR h3
    go_wp2_with fail
    go_ret3
    exact .no (by decide) rfl B1.out
  have d3 : decide ((N : Int) < 2147483648) = false := by simp; omega
  have hE3 := hE2.out.trans (if_neg h3)
  have hT2 := hTs.out
  have hi := hI.out
  have eN : (N : Int) - 2147483648 = (i : Int) := by omega
  have hN1 : (2147483648 : Int) ≤ (N : Int) := by omega
  have hi2 : (i : Int) ≤ 2147483647 := by omega
  have hi3 : Hid (i ≤ 2147483647) := by show _ ≤ _; omega
  have hs4 : Hid (src < 4294967296) := Lib.hid (by omega)
  clear hE2 hi h3 hTs hI
  replace hE3 := Lib.hid hE3
  replace hT2 := Lib.hid hT2
  go_upto_region 9 with (fail)
  go_wp2_with fail
  refine Calls.mono (cS w1 B1.out).out ?_
  rintro e w' ⟨rfl, rfl⟩
  dsimp only
  clear cS d3 eN hN1 hN2
  have cF := fun wz (h : BW w wz) => Lib.hid (cfresh_ok g K lim used nxt gm M src i hMM.out hs4.out (by have := hi3.out; omega) wz (hWW.out.bw h))
  have hfi := @cfresh_in lim used M src i
  have hgb := Lib.hid (getW_b hMM.out src)
  generalize cfreshE lim used M src i = F at *
  generalize hvb : getW M src = vb at *
  obtain ⟨nx, bs⟩ := vb
  dsimp only at hfi cF hgb
  replace hvb := Lib.hid hvb
  replace hfi := Lib.hid hfi
  go_wp2_with fail
  refine Calls.mono (cF w1 B1.out).out ?_
  rintro e w2 ⟨rfl, hb⟩
  have B2 := Lib.hid (B1.out.trans hb)
  clear cF hb B1
  dsimp only
  have BC : BW w2 (w2.alloc (.cells #[.int .i64 (nx : Nat), .int .u64 (bs : Nat)] 89)) := (BW.refl w2).alloc
  have Y := Lib.hid (show WinV _ w2.heap.size nx bs from HpB.new w2 (.cells #[.int .i64 (nx : Nat), .int .u64 (bs : Nat)] 89))
  have hB2 := Lib.hid B2.out.size
  have B3 := Lib.hid (B2.out.trans BC)
  clear BC B2
  go_upto_region 11 with (fail)
  generalize (w2.alloc _) = w3 at *
  generalize w2.heap.size = g2 at *
  by_cases hf : F = 0
  rotate_left
  · have d4 : ((F : Int) != 0) = true := by simpa using hf
    have hR := hE3.out.trans (if_pos hf)
    subst hR
    clear hE3 hg hgm hMM cR hT2 Y
    replace hf := Lib.hid hf
    go_wp2_with fail
    go_ret3
    exact .no hf.out rfl B3.out
  have d4 : ((F : Int) != 0) = false := by simpa using hf
  have hE4 := hE3.out.trans (if_neg (fun h => h hf))
  have hfr := Lib.hid (hfi.out hf)
  clear hE3 hfi hf
  replace hE4 := Lib.hid hE4
  go_upto_region 13 with (fail)
  clear d4
  have BD : BW w3 (w3.alloc (.cells #[.slice sb q cb] 22)) := (BW.refl w3).alloc
  have S4 := Lib.hid (SM.sole w3 (.slice sb q cb) q b1 (V1.out.bw B3.out))
  have W4 := Lib.hid (hWW.out.bw (B3.out.trans BD))
  have cC := Lib.hid (check_ok (some ⟨g, 16, none⟩) 20 20 sb2 z cb2 (some ⟨w3.heap.size, 0, none⟩) 1 1 (mid K 16 20) b2 [b1] (by omega) (by omega) (by have := hb1.out; have := hq8.out; simp; omega) _ W4.out.auth (V2.out.bw (B3.out.trans BD)) S4.out)
  rw [show [b1].flatten = b1 by simp, goodC K b1 b2 (by rw [V2.out.1]; exact hz.out)] at cC
  have Y4 := Lib.hid (show WinV _ g2 nx bs from HpB.bw Y.out BD)
  have B4 := Lib.hid (B3.out.trans BD)
  clear S4 B3 Y W4
  replace BD := Lib.hid BD
  go_wp2_with fail
  refine Calls.mono cC.out ?_
  rintro e w5 ⟨rfl, hb⟩
  replace hb : BW _ w5 := BW.of hb
  have Y5 := Lib.hid (show WinV _ g2 nx bs from HpB.bw Y4.out hb)
  have B5 := Lib.hid (B4.out.trans hb)
  clear hb B4 Y4 cC BD V1 V2
  dsimp only
  by_cases ht : b2 = tagC K b1
  rotate_left
  · rw [decide_eq_false ht]
    have hR := hE4.out.trans (if_pos ht)
    subst hR
    clear hE4 hg hgm hMM cR hT2 Y5 hfr hgb
    go_wp2_with fail
    go_ret3
    exact .no (by decide) rfl B5.out
  rw [decide_eq_true ht]
  have hE5 := hE4.out.trans (if_neg (fun h => h ht))
  subst hE5
  have cR2 := fun wz v h => Lib.hid (cR.out rfl wz v h)
  clear hE4 ht cR
  have W6 := Lib.hid (hWW.out.bw B5.out)
  have S6 := Lib.hid (B5.out.still [g, gm])
  have V6 := Lib.hid (V3.out.bw B5.out)
  have hs6 := Lib.hid B5.out.size
  have cm := Lib.hid (mark_ok g2 nx bs i (by have := hgb.out; omega) hgb.out.2 (by have := hi3.out; omega) hfr.out w5 Y5.out)
  generalize hmk : wMark nx bs i = mk at *
  obtain ⟨nx', bs'⟩ := mk
  dsimp only at cm
  have hh0 : Hid (g < g2 ∧ gm < g2) := by have := hg.out; have := hgm.out; have := hB2.out; show _ ∧ _; omega
  replace hmk := Lib.hid hmk
  clear hWW V3 B5 hgb hfr hVV
  go_upto_region 15 with (fail)
  go_wp2_with fail
  refine Calls.mono cm.out ?_
  rintro e w7 ⟨rfl, Y7, hs⟩
  dsimp only
  have W7 := Lib.hid (W6.out.still hs (by have := hh0.out; simp; omega) (by have := hh0.out; simp; omega))
  have S7 := Lib.hid (S6.out.ow2 hs (fun k hk => .inr (by obtain rfl : k = g2 := (by simpa using hk); exact hB2.out)))
  have V7 := Lib.hid (V6.out.still hs (fun k hk hm => by obtain rfl : k = g2 := (by simpa using hm); have := hown.out r k hk (by omega); have := hB2.out; omega))
  have hs7 := Lib.hid (Nat.le_trans hs6.out hs.size)
  have l0 : ∀ y : LaterS [] w7, y.now.cell? _ = _ := fun y => y.bw.cell W7.out.map
  have l1 : ∀ y : LaterS [] w7, y.now.cell? _ = _ := fun y => y.bw.cell ((hp_cell Y7 0).trans (show _ = some (.int .i64 (nx' : Nat)) from rfl))
  have l2 : ∀ y : LaterS [] w7, y.now.cell? _ = _ := fun y => y.bw.cell ((hp_cell Y7 1).trans (show _ = some (.int .u64 (bs' : Nat)) from rfl))
  clear S6 W6 cm hs V6 hs6 Y5
  replace Y7 := Lib.hid Y7
  go_upto_region 16 with (fail)
  refine wp_region_gg [] [] [6] (by kernel_rfl) ?_
  refine hoist [] [] (a1 := ?_) 0 rfl (by kernel_rfl) (.inl ⟨rfl, rfl⟩) rfl rfl rfl (fun x K hK => ?_) ?_
  rotate_left
  · go_big_quiet_op
    exact hK
  refine hoist [] [] (a1 := ?_) 1 rfl (by kernel_rfl) (.inl ⟨rfl, rfl⟩) rfl rfl rfl (fun x K hK => ?_) ?_
  rotate_left
  · go_big_quiet_op
    exact hK
  refine hoist [] [] (a1 := ?_) 2 rfl (by kernel_rfl) (.inl ⟨rfl, rfl⟩) rfl rfl rfl (fun x K hK => ?_) ?_
  rotate_left
  · go_big_quiet_op
    exact hK
  refine hoist [] [] (a1 := ?_) 3 rfl (by kernel_rfl) (.inl ⟨rfl, rfl⟩) rfl rfl rfl (fun x K hK => ?_) ?_
  rotate_left
  · go_big_quiet_op
    exact hK
  refine hoist [] [] (a1 := ?_) 4 rfl (by kernel_rfl) (.inl ⟨rfl, rfl⟩) rfl rfl rfl (fun x K hK => ?_) ?_
  rotate_left
  · go_big_quiet_op
    exact hK
  refine hoist [] [] (a1 := ?_) 5 rfl (by kernel_rfl) (.inl ⟨rfl, rfl⟩) rfl rfl rfl (fun x K hK => ?_) ?_
  rotate_left
  · go_big_quiet_op
    exact hK
  refine tail 6 rfl (by kernel_rfl) rfl (fun xr => ?_)
  simp only [List.drop_succ_cons, List.drop_zero]
  have W8 := W7.out.bw xr.bw
  have S8 := Lib.hid (S7.out.bw' xr.bw)
  have V8 := Lib.hid (V7.out.bw xr.bw)
  have hs8 := Lib.hid (Nat.le_trans hs7.out xr.bw.size)
  obtain ⟨w9, hrun, hmp, hst⟩ := upd_w W8.mp hMM.out src hs4.out (nx', bs')
  dsimp only at hrun
  clear l0 l1 l2 W7 S7 V7 hs7 Y7
  generalize xr.now = w8 at *
  have W9 : Hid (CwV w9 g K lim used nxt gm (setW M src (nx', bs'))) := ⟨W8.hp.st hst (by simpa using W8.ne), W8.len, W8.byt, hmp⟩
  have S9 := Lib.hid (S8.out.ow2 hst (fun k hk => .inl (by obtain rfl : k = gm := (by simpa using hk); simp)))
  have V9 := Lib.hid (V8.out.still hst (fun k hk hm => by obtain rfl : k = gm := (by simpa using hm); have := hown.out r k hk (by omega); omega))
  have hs9 := Lib.hid (Nat.le_trans hs8.out hst.size)
  generalize hMe : setW M src (nx', bs') = M' at *
  clear W8 S8 hmp hst V8 hs8
  replace hMe := Lib.hid hMe
  go_upto_region 17 with (fail)
  clear hrun hnmi hnm4
  have z5 := W9.out.used
  have f5 := hp_frz W9.out.hp 51
  have W10 := Lib.hid W9.out.use
  have T10 := still_sc w9 g 51 (.int .i64 ((used + 1 : Nat) : Int))
  have S10 := Lib.hid (S9.out.trans (T10.weaken (by simp)))
  have V10 := Lib.hid (V9.out.still T10 (fun k hk hm => by obtain rfl : k = g := (by simpa using hm); have := hown.out r k hk (by omega); omega))
  have hs10 := Lib.hid (Nat.le_trans hs9.out T10.size)
  clear W9 S9 T10 V9 hs9
  push_cast at W10 S10 V10 hs10
  go_upto_region 18 with (fail)
  clear z5 f5
  generalize (w9.setCell _ _) = w10 at *
  go_upto_region 19 with (fail)
  clear hcH e14
  have V8 := Lib.hid (V10.out.takeW 8 hq8.out.1)
  have hT3 := hT2.out
  rw [← e8.out] at hT3
  have cu := fun wz (h : BW w10 wz) => Lib.hid (cturn_ok g K lim (used + 1) nxt gm M' sb r cb b3 i hq8.out.1 (by have := hi3.out; omega) (by have := hq8.out; omega) wz (W10.out.bw h) (V10.out.bw h))
  have hTl : T.length = r := by
    rw [hT3]
    unfold spinC
    rw [List.length_append, cipN_len, List.length_take, List.length_drop, hb3.out]
    have := hq8.out
    omega
  generalize spinC K i b3 = sp at *
  generalize b3.take 8 = b8 at *
  have hTf : [b8, sp].flatten = T := by rw [hT3]; simp
  have cn := fun wz gz (h : SM wz (.slice (some ⟨gz, 0, none⟩) 2 2) 2 [b8, sp]) => Lib.hid (concat_ok (.slice (some ⟨gz, 0, none⟩) 2 2) 2 [b8, sp] (by rw [hTf, hTl]; have := hq8.out; omega) wz h)
  rw [hTf, hTl] at cn
  clear hT2 hT3 hTf hTl e8 hb3
  have h8c : 8 ≤ cb := by have := hq8.out; omega
  generalize hnl : L.length = nl at *
  refine wp_region_gg [] [] [] (by kernel_rfl) ?_
  refine hoist [] [] (a1 := ?_) 0 rfl (by kernel_rfl) (.inl ⟨rfl, rfl⟩) rfl rfl rfl (fun x K hK => ?_) ?_
  rotate_left
  · go_big_quiet_op
    exact hK
  refine hoist [] [] (a1 := ?_) 1 rfl (by kernel_rfl) (.inl ⟨rfl, rfl⟩) rfl rfl rfl (fun x K hK => ?_) ?_
  rotate_left
  · refine qlCutH (hi := 8) rfl (by rfl) (by rfl) rfl h8c (by simp only [Act.put, List.setIfInBounds_toArray, List.set_cons_succ, List.set_cons_zero]; rfl) ?_
    exact hK
  refine hoist [] [] (a1 := ?_) 2 rfl (by kernel_rfl) (.inl ⟨rfl, rfl⟩) rfl rfl rfl (fun x K hK => ?_) ?_
  rotate_left
  · go_big_quiet_op
    exact hK
  refine hoist [] [] (a1 := ?_) 3 rfl (by kernel_rfl) (.inl ⟨rfl, rfl⟩) rfl rfl rfl (fun x K hK => ?_) ?_
  rotate_left
  · go_big_quiet_op
    exact hK
  refine hoist [] [] (a1 := ?_) 4 rfl (by kernel_rfl) (.inl ⟨rfl, rfl⟩) rfl rfl rfl (fun x K hK => ?_) ?_
  rotate_left
  · go_big_quiet_op
    exact hK
  refine effect 5 rfl (by kernel_rfl) (by kernel_rfl) rfl (fun x5 K hK => ?_)
  go_simp
  refine Calls.mono (cu x5.now x5.bw).out ?_
  rintro e w11 ⟨s11, c11, rfl, O11, hb⟩
  refine hK _ _ (hb.still []) ?_
  clear hK K
  have B11 := Lib.hid (x5.bw.trans hb)
  replace O11 := Lib.hid O11
  clear hb cu
  try simp only [Act.put, List.setIfInBounds_toArray, List.set_cons_succ, List.set_cons_zero]
  refine effect 6 rfl (by kernel_rfl) (by kernel_rfl) rfl (fun x6 K hK => ?_)
  go_simp
  refine hK _ _ (Still.of_below ((Below.refl _ _).alloc (Nat.le_refl _) _)) ?_
  clear hK K
  have hb := x6.bw.trans ((BW.refl x6.now).alloc (o := .cells #[.slice sb 8 cb, .slice s11 (r - 8) c11] 22))
  have B12 := Lib.hid (B11.out.trans hb)
  have S12 := Lib.hid (SM.two x6.now (.slice sb 8 cb) 8 b8 (.slice s11 (r - 8) c11) (r - 8) sp (V8.out.bw (B11.out.trans x6.bw)) (O11.out.bw x6.bw).sb)
  clear hb B11 O11
  generalize (x6.now.alloc _) = w12 at *
  generalize x6.now.heap.size = g12 at *
  try simp only [Act.put, List.setIfInBounds_toArray, List.set_cons_succ, List.set_cons_zero]
  refine effect 7 rfl (by kernel_rfl) (by kernel_rfl) rfl (fun x7 K hK => ?_)
  go_simp
  refine Calls.mono (cn x7.now g12 (S12.out.bw x7.bw)).out ?_
  rintro e w13 ⟨v13, rfl, O13, hb⟩
  obtain ⟨s13, c13, rfl, _, _⟩ := O13.len
  replace hb : BW x7.now w13 := BW.of hb
  refine hK _ _ (hb.still []) ?_
  clear hK K
  have B13 := Lib.hid (B12.out.trans (x7.bw.trans hb))
  replace O13 := Lib.hid O13
  clear hb cn S12 B12
  try simp only [Act.put, List.setIfInBounds_toArray, List.set_cons_succ, List.set_cons_zero]
  refine effect 8 rfl (by kernel_rfl) (by kernel_rfl) rfl (fun x8 K hK => ?_)
  go_simp
  refine Calls.mono (cR2 x8.now _ (O13.out.bw x8.bw).sb).out ?_
  rintro e w14 ⟨so, co, rfl, Q, hb⟩
  refine hK _ _ (hb.still []) ?_
  clear hK K
  have Q14 := Lib.hid (Q.up (base' := w.heap.size) (by have := hs10.out; have := B13.out.size; have := x8.bw.size; omega))
  have B14 := Lib.hid (B13.out.trans (x8.bw.trans hb))
  clear hb cR2 O13 B13 Q
  try simp only [Act.put, List.setIfInBounds_toArray, List.set_cons_succ, List.set_cons_zero]
  refine hoist [] [] (a1 := ?_) 9 rfl (by kernel_rfl) (.inl ⟨rfl, rfl⟩) rfl rfl rfl (fun x K hK => ?_) ?_
  rotate_left
  · go_big_quiet_op
    exact hK
  refine hoist [] [] (a1 := ?_) 10 rfl (by kernel_rfl) (.inl ⟨rfl, rfl⟩) rfl rfl rfl (fun x K hK => ?_) ?_
  rotate_left
  · go_big_quiet_op
    exact hK
  refine hoist [] [] (a1 := ?_) 11 rfl (by kernel_rfl) (.inl ⟨rfl, rfl⟩) rfl rfl rfl (fun x K hK => ?_) ?_
  rotate_left
  · go_big_quiet_op
    exact hK
  refine hoist [] [] (a1 := ?_) 12 rfl (by kernel_rfl) (.inl ⟨rfl, rfl⟩) rfl rfl rfl (fun x K hK => ?_) ?_
  rotate_left
  · go_big_quiet_op
    exact hK
  refine hoist [] [] (a1 := ?_) 13 rfl (by kernel_rfl) (.inl ⟨rfl, rfl⟩) rfl rfl rfl (fun x K hK => ?_) ?_
  rotate_left
  · go_big_quiet_op
    exact hK
  refine done (by kernel_rfl) (fun xr => ?_)
  have Q15 := Lib.hid (Q14.out.bw xr.bw)
  have W15 := Lib.hid (W10.out.bw (B14.out.trans xr.bw))
  have S15 := Lib.hid (S10.out.bw' (B14.out.trans xr.bw))
  clear Q14 B14 V8 V10 W10 S10
  go_wp2_with fail
  go_ret3
  subst hnl
  exact .yes rfl so co rfl Q15.out (by rw [hvb.out]; dsimp only; rw [hmk.out, hMe.out]; exact W15.out) S15.out
end Go.Proofs.Ytikmhlbpefednaa

namespace Go.Proofs.Ytikmhlbpefednaa
open Go.RowKit

theorem ctl_form {T : TypeId} {w : World} {base : Nat} {sv : Option Addr} {n cap : Nat} {L : List Ctl} (h : EQ EC T w base (.slice sv n cap) n L) (h0 : 0 < n) :
    ∃ g o, sv = some ⟨g, o, none⟩ ∧ base ≤ g ∧ ∀ i (_ : i < L.length), ∃ vr vn vs vl vf, CtlV w base L[i] vr vn vs vl vf ∧ ∀ j, j < 13 → w.cell? ⟨g, o + i * 13 + j, none⟩ = (ctlC L[i] vr vn vs vl vf)[j]? := by
  obtain ⟨g, o, cap', hsl, hb, _, _, _, hce⟩ := h.form h0
  simp only [Value.slice.injEq] at hsl
  refine ⟨g, o, hsl.1, hb, fun i hi => ?_⟩
  obtain ⟨c, ⟨vr, vn, vs, vl, vf, rfl, hC⟩, hcc⟩ := hce i hi
  exact ⟨vr, vn, vs, vl, vf, hC, fun j hj => by rw [← hcc j hj, ← Nat.add_assoc]; rfl⟩
def rrB : List Nat := smB_rr 7
def rrC : Ctl := ⟨201, 7, 0, 0, 0, 0, 0, [], [], [], [], [], 0⟩
theorem rrB_eq : rrB = [128, 201, 0, 1, 0, 0, 0, 7] := by decide
theorem rrC_eq : rrC = ⟨201, numB (([0, 0, 0, 7] : List Nat).take 4), 0, 0, 0, 0, 0, (repsN (([0, 0, 0, 7] : List Nat).drop 4) 0).map repOf, [], [], [], [], 0⟩ := by
  have h1 : numB (([0, 0, 0, 7] : List Nat).take 4) = 7 := by decide
  have h2 : (repsN (([0, 0, 0, 7] : List Nat).drop 4) 0).map repOf = [] := by simp [repsN]
  rw [h1, h2]
  rfl
theorem rr_part : PartOk rrB rrC := by
  rw [rrB_eq, rrC_eq]
  exact ⟨1, 0, 201, 0, 1, -1, [0, 0, 0, 7], 124, by decide, rfl, by simp, by decide, by decide, by decide, by decide, by decide, receiver_ok 0 [0, 0, 0, 7] (by decide) (by decide), fun _ _ => by kernel_rfl, rfl, by decide⟩
theorem rr_read (wz : World) (v : Value) (h : SB wz v 8 rrB) : Calls Try.prog 65 #[v] wz fun e w' => ∃ so co, e = .returned (.tuple #[.slice so 1 co, .int .i64 0]) ∧ EQ EC 69 w' wz.heap.size (.slice so 1 co) 1 [rrC] ∧ BW wz w' :=
  Read_ok [(rrB, rrC)] (by intro p hp; simp at hp; subst hp; exact rr_part) (by decide) (by decide) v 8 (by decide) wz (by simpa [restB] using h)
theorem rrB_len : rrB.length = 8 := by decide
theorem rrB_src : nm rrB 4 4 = 7 := by decide
def rrM : List (Nat × Nat × Nat) := [(7, 1, 1)]
theorem rrM_ok : MOk rrM := ⟨by simp [rrM], by simp [rrM]⟩
theorem rrM_set : setW [] 7 (wMark (getW [] 7).1 (getW [] 7).2 0) = rrM := by decide
theorem rr_E1 (K : List Nat) : copenE K 9 0 [] (csealB K rrB 0) = 0 := by
  rw [copenE_seal K rrB 0 (by decide) (by decide) (by decide), rrB_src]
  decide
theorem rr_E2 (K : List Nat) : copenE K 9 1 rrM (csealB K rrB 0) = 5 := by
  rw [copenE_seal K rrB 0 (by decide) (by decide) (by decide), rrB_src]
  decide
theorem rr_T (K : List Nat) : copenT K (csealB K rrB 0) = rrB := copenT_seal K rrB 0 (by decide) (by decide)
theorem rr_src (K : List Nat) : nm (csealB K rrB 0) 4 4 = 7 := by rw [cseal_src K rrB 0 (by decide), rrB_src]
theorem rr_num (K : List Nat) : nm (csealB K rrB 0) ((csealB K rrB 0).length - 14) 4 - 2 ^ 31 = 0 := by
  rw [csealB_len K rrB 0 (by decide), Nat.add_sub_cancel, cseal_num K rrB 0 (by decide) (by decide)]
theorem rr_open1 (g : Nat) (K : List Nat) (gm : Nat) (sb : Option Addr) (cb : Nat) (w : World) (hW : CwV w g K 9 0 0 gm []) (hv : SB w (.slice sb 22 cb) 22 (csealB K rrB 0)) (hvo : ∀ k, (Value.slice sb 22 cb).ownBlock = some k → k ≠ g ∧ k ≠ gm) :
    Calls Try.prog 39 #[.pointer (some ⟨g, 0, none⟩), .slice sb 22 cb] w fun e w' => ∃ s c, e = .returned (.tuple #[.slice s 1 c, .int .u32 7, .int .i64 0]) ∧ EQ EC 69 w' w.heap.size (.slice s 1 c) 1 [rrC] ∧ CwV w' g K 9 1 0 gm rrM ∧ Still [g, gm] w w' := by
  have h := copen_ok g K 9 0 0 gm [] sb 22 cb (csealB K rrB 0) [rrC] MOk.nil (by decide) (by decide) w hW hv hvo (fun _ wz v hz => by
    rw [rr_T] at hz
    exact rr_read wz v hz)
  rw [rr_E1, rr_src, rr_num] at h
  refine h.mono fun e w' hp => ?_
  cases hp with
  | no h => exact absurd rfl h
  | yes _ s c he ho hw ht =>
    rw [rrM_set] at hw
    exact ⟨s, c, he, ho, hw, ht⟩
theorem rr_open2 (g : Nat) (K : List Nat) (gm : Nat) (sb : Option Addr) (cb : Nat) (w : World) (hW : CwV w g K 9 1 0 gm rrM) (hv : SB w (.slice sb 22 cb) 22 (csealB K rrB 0)) (hvo : ∀ k, (Value.slice sb 22 cb).ownBlock = some k → k ≠ g ∧ k ≠ gm) :
    Calls Try.prog 39 #[.pointer (some ⟨g, 0, none⟩), .slice sb 22 cb] w fun e w' => e = .returned (.tuple #[.slice none 0 0, .int .u32 0, .int .i64 5]) ∧ BW w w' := by
  have h := copen_ok g K 9 1 0 gm rrM sb 22 cb (csealB K rrB 0) [] rrM_ok (by decide) (by decide) w hW hv hvo (fun h0 => by rw [rr_E2] at h0; cases h0)
  rw [rr_E2] at h
  refine h.mono fun e w' hp => ?_
  cases hp with
  | no _ he hb => exact ⟨he, hb⟩
  | yes h => cases h
theorem rr_seal (g : Nat) (K : List Nat) (gm b cap : Nat) (hc : 1 ≤ cap ∧ cap ≤ 1000000) (w : World) (hb : b < w.heap.size) (hx : ∀ j, j < 13 → w.cell? ⟨b, 0 + j, none⟩ = (smC 201 7 0 : Array Value)[j]?) (hW : CwV w g K 9 0 0 gm []) :
    Calls Try.prog 19 #[.pointer (some ⟨g, 0, none⟩), .slice (some ⟨b, 0, none⟩) 1 cap] w fun e w' => ∃ s c, e = .returned (.tuple #[.slice s 22 c, .int .i64 0]) ∧ OB w' w.heap.size 5 (.slice s 22 c) 22 (csealB K rrB 0) ∧ Still [g] w w' := by
  have h := cseal_ok g K 9 0 0 gm [] (.slice (some ⟨b, 0, none⟩) 1 cap) 8 rrB (by decide) (by decide) (by decide) (by decide) w (fun wz h => write_rr 7 (by decide) b 0 cap wz (Nat.lt_of_lt_of_le hb h.size) hc (fun j hj => by
    have hs := hx j hj
    cases hv : (smC 201 7 0 : Array Value)[j]? with
    | none => rw [Array.getElem?_eq_none_iff] at hv; simp at hv; omega
    | some v => rw [hv] at hs; exact h.cell hs)) ⟨_, _, _, rfl⟩ hW
  refine h.mono fun e w' hp => ?_
  cases hp with
  | spent h => omega
  | yes _ s c he ho hw ht => exact ⟨s, c, he, ho, ht⟩
end Go.Proofs.Ytikmhlbpefednaa

namespace Go.Proofs.Ytikmhlbpefednaa
open Go.RowKit

def scK : List Nat := keysN (zeros 16) (zeros 14) 3
theorem scZ : ivA .u8 (zeros 16 ++ zeros 14) = #[.int .u8 0, .int .u8 0, .int .u8 0, .int .u8 0, .int .u8 0, .int .u8 0, .int .u8 0, .int .u8 0, .int .u8 0, .int .u8 0, .int .u8 0, .int .u8 0, .int .u8 0, .int .u8 0, .int .u8 0, .int .u8 0, .int .u8 0, .int .u8 0, .int .u8 0, .int .u8 0, .int .u8 0, .int .u8 0, .int .u8 0, .int .u8 0, .int .u8 0, .int .u8 0, .int .u8 0, .int .u8 0, .int .u8 0, .int .u8 0] := rfl
set_option maxRecDepth 100000 in
set_option maxHeartbeats 8000000 in
theorem srtcp_alive (w : World) : Calls Try.prog 17 #[] w fun e w' => e = .returned (.bool true) ∧ BW w w' := by
  have cN := fun wz => Lib.hid (cway_new (zeros 16) (zeros 14) 9 (zeros_len 16) (zeros_byL 16) (zeros_len 14) (zeros_byL 14) wz)
  rw [scZ, show keysN (zeros 16) (zeros 14) 3 = scK from rfl] at cN
  have cS := fun wz g gm b (hb : b < wz.heap.size) hx hW => Lib.hid (rr_seal g scK gm b 1 (by omega) wz hb hx hW)
  have cO1 := fun wz g gm sb cb hW hv hvo => Lib.hid (rr_open1 g scK gm sb cb wz hW hv hvo)
  have cO2 := fun wz g gm sb cb hW hv hvo => Lib.hid (rr_open2 g scK gm sb cb wz hW hv hvo)
  have cE := fun wz a1 a2 a3 a4 a5 e1 e2 e3 e4 e5 b1 b2 o2 c2 hx hy => Lib.hid (csames_sm 201 7 0 a1 a2 a3 a4 a5 e1 e2 e3 e4 e5 (by decide) (by decide) b1 0 1 b2 o2 c2 wz hx hy)
  generalize csealB scK rrB 0 = SB0 at *
  generalize scK = K at *
  go_enter Try.func17, Try.ntmps17
  go_wp2_with fail
  refine Calls.mono (cN w).out ?_
  rintro e w1 ⟨ga, ma, rfl, hga, hma, Wa, hb⟩
  have l1 := Wa.hp.lt
  have l2 := Wa.mp.lt
  dsimp only
  go_wp2_with fail
  refine Calls.mono (cN w1).out ?_
  rintro e w2 ⟨gb, mb, rfl, hgb, hmb, Wb, hb2⟩
  have hlt : Hid (ga < gb ∧ ga < mb ∧ ma < gb ∧ ma < mb ∧ gb < w2.heap.size ∧ mb < w2.heap.size) := by
    have := Wb.hp.lt
    have := Wb.mp.lt
    exact ⟨by omega, by omega, by omega, by omega, by omega, by omega⟩
  clear l1 l2
  replace Wa := Lib.hid (Wa.bw hb2)
  have B := Lib.hid (hb.trans hb2)
  have hga1 := Lib.hid hga
  have hgb1 := Lib.hid (Nat.le_trans hb.size hgb)
  have hmb1 := Lib.hid (Nat.le_trans hb.size hmb)
  clear cN hb hb2 hga hma hgb hmb
  replace Wb := Lib.hid Wb
  dsimp only
  go_upto_region 4 with (fail)
  have B3 : BW w2 (w2.alloc (.cells (smC 201 7 0) 69)) := (BW.refl _).alloc
  have P := Lib.hid (HpB.new w2 (.cells (smC 201 7 0) 69))
  have Wa3 := Lib.hid (Wa.out.bw B3)
  have Wb3 := Lib.hid (Wb.out.bw B3)
  have hz := Lib.hid B.out.size
  replace B := Lib.hid (B.out.trans B3)
  have hpl := P.out.lt
  have hx := fun j (hj : j < 13) => (hp_cell P.out (0 + j)).trans (show _ = (smC 201 7 0 : Array Value)[0 + j]? from rfl)
  simp only [Nat.zero_add] at hx
  have cS1 := cS _ ga ma w2.heap.size hpl (fun j hj => by rw [Nat.zero_add]; exact hx j hj) Wa3.out
  clear cS Wa Wb hx hpl Wa3
  replace B3 := Lib.hid B3
  go_wp2_with fail
  refine Calls.mono cS1.out ?_
  rintro e w4 ⟨s4, c4, rfl, O4, T4⟩
  have P4 := Lib.hid (P.out.st T4 (by have := hlt.out; simp; omega))
  have Wb4 := Lib.hid (Wb3.out.still T4 (by have := hlt.out; simp; omega) (by have := hlt.out; simp; omega))
  replace B := Lib.hid (B.out.stP T4 (fun k hk => by obtain rfl : k = ga := (by simpa using hk); exact hga1.out))
  have hgp : Hid (w2.heap.size < w4.heap.size) := P4.out.lt
  have hge : Hid (∀ k, (Value.slice s4 22 c4).ownBlock = some k → w2.heap.size < k) := fun k hk => by
    have := O4.ge' k hk
    have := P.out.lt
    omega
  replace O4 := Lib.hid O4
  clear T4 cS1 P Wb3 B3
  generalize hgq : w2.heap.size = gp at *
  dsimp only
  go_upto_region 6 with (fail)
  go_wp2_with fail
  refine Calls.mono (cO1 w4 gb mb s4 c4 Wb4.out O4.out.sb (fun k hk => by have := hge.out k hk; have := hlt.out; omega)).out ?_
  rintro e w5 ⟨so, co, rfl, Q, Wb5, T5⟩
  have P5 := Lib.hid (P4.out.st T5 (by have := hlt.out; simp; omega))
  have O5 := Lib.hid (O4.out.still T5 (fun k hk hm => by have := hge.out k hk; have := hlt.out; simp at hm; omega))
  replace B := Lib.hid (B.out.stP T5 (fun k hk => by have := hgb1.out; have := hmb1.out; simp at hk; rcases hk with rfl | rfl <;> omega))
  obtain ⟨gl, ol, rfl, -, hcl⟩ := ctl_form Q (by decide)
  obtain ⟨vr, vn, vs, vl, vf, CV, hcc⟩ := hcl 0 (by decide)
  obtain ⟨ar, kr, rfl, -, -⟩ := CV.r.len
  obtain ⟨an, kn, rfl, -, -⟩ := CV.n.len
  obtain ⟨as_, ks, rfl, -, -⟩ := CV.s.len
  obtain ⟨al, kl, rfl, -, -⟩ := CV.l.len
  obtain ⟨af, kf, rfl, -, -⟩ := CV.f.len
  have hy : Hid (∀ j, j < 13 → w5.cell? ⟨gl, ol + j, none⟩ = (smG 201 7 0 ar an as_ al af kr kn ks kl kf)[j]?) := fun j hj => by
    have h0 := hcc j hj
    rw [Nat.zero_mul, Nat.add_zero] at h0
    rw [h0]
    rcases (show j = 0 ∨ j = 1 ∨ j = 2 ∨ j = 3 ∨ j = 4 ∨ j = 5 ∨ j = 6 ∨ j = 7 ∨ j = 8 ∨ j = 9 ∨ j = 10 ∨ j = 11 ∨ j = 12 by omega) with rfl | rfl | rfl | rfl | rfl | rfl | rfl | rfl | rfl | rfl | rfl | rfl | rfl <;> rfl
  replace Wb5 := Lib.hid Wb5
  clear T5 cO1 Wb4 P4 O4 CV hcc hcl Q hgp
  dsimp only
  go_upto_region 7 with (fail)
  go_wp2_with fail
  refine Calls.mono (cO2 w5 gb mb s4 c4 Wb5.out O5.out.sb (fun k hk => by have := hge.out k hk; have := hlt.out; omega)).out ?_
  rintro e w6 ⟨rfl, hb6⟩
  have P6 := Lib.hid (P5.out.bw hb6)
  have hy6 : Hid (∀ j, j < 13 → w6.cell? ⟨gl, ol + j, none⟩ = (smG 201 7 0 ar an as_ al af kr kn ks kl kf)[j]?) := fun j hj => by
    have h0 := hy.out j hj
    cases hv : (smG 201 7 0 ar an as_ al af kr kn ks kl kf)[j]? with
    | none => rw [Array.getElem?_eq_none_iff] at hv; simp at hv; omega
    | some v => rw [hv] at h0; exact hb6.cell h0
  replace B := Lib.hid (B.out.trans hb6)
  clear hb6 P5 hy cO2 O5 Wb5
  dsimp only
  go_upto_region 8 with (fail)
  have hx6 := fun j (hj : j < 13) => (hp_cell P6.out (0 + j)).trans (show _ = (smC 201 7 0 : Array Value)[0 + j]? from rfl)
  have cE1 := cE w6 ar an as_ al af kr kn ks kl kf gp gl ol co (fun j hj => by have := hx6 j hj; rw [Nat.zero_add] at this ⊢; exact this) hy6.out
  clear hx6 hy6 cE P6
  go_wp2_with fail
  refine Calls.mono cE1.out ?_
  rintro e w7 ⟨rfl, hb7⟩
  replace B := Lib.hid (B.out.trans hb7)
  clear hb7 cE1
  dsimp only
  go_wp2_with fail
  go_ret
  exact ⟨rfl, B.out⟩
end Go.Proofs.Ytikmhlbpefednaa

namespace Go.Proofs.Ytikmhlbpefednaa
open Go.RowKit

/-- What came in as a master. -/
theorem cmaster_of_Rd {w : World} {cs : Array Value} (h : Rd w (.scope (.seq (.block 16 (.label 4)) (.seq (.block 14 (.label 4)) .skip))) cs.toList) : ∃ key salt : List Nat, cs = ivA .u8 (key ++ salt) ∧ key.length = 16 ∧ ByL key ∧ salt.length = 14 ∧ ByL salt := by
  obtain ⟨c1, c2, e, h1, c3, c4, e2, h3, h4⟩ := h
  have h4 : c4 = [] := h4
  subst h4 e2
  obtain ⟨k1, e1, l1, b1⟩ := bytes_of_cells w 16 c1 h1.1 h1.2
  obtain ⟨k2, e2, l2, b2⟩ := bytes_of_cells w 14 c3 h3.1 h3.2
  refine ⟨k1, k2, ?_, l1, byl_of b1, l2, byl_of b2⟩
  apply Array.ext'
  rw [e, e1, e2]
  simp [ivA]
theorem pliB_len : (smB_pli 1 2).length = 12 := by decide
set_option maxRecDepth 100000 in
set_option maxHeartbeats 8000000 in
theorem keys_walk (key salt : List Nat) (hk : key.length = 16) (hkb : ByL key) (hs : salt.length = 14) (hsb : ByL salt) (n : Nat) (hn : n ≤ 255) (w : World) :
    Calls Try.prog 5 #[.agg (ivA .u8 (key ++ salt)), .int .u8 (n : Nat)] w fun e w' => e = .returned (.bool true) ∧ Below w.heap.size w w' := by
  have ca := fun wz => Lib.hid (srtcp_alive wz)
  have eL : ((n : Int) % 12) = ((n % 12 : Nat) : Int) := by omega
  have hL : n % 12 ≤ 11 := by omega
  have cN := fun wz => Lib.hid (cway_new key salt ((n % 12 : Nat) : Int) hk hkb hs hsb wz)
  have cS := fun wz g K u gm b (hu : u ≤ 11) (hb : b < wz.heap.size) (hx : ∀ j, j < 13 → wz.cell? ⟨b, 0 + j, none⟩ = (smC 2 1 2 : Array Value)[j]?) (hW : CwV wz g K ((n % 12 : Nat) : Int) u u gm []) => Lib.hid (cseal_ok g K ((n % 12 : Nat) : Int) u u gm [] (.slice (some ⟨b, 0, none⟩) 1 1) 12 (smB_pli 1 2) (by decide) (by decide) (by omega) (by omega) wz (fun wy h => write_pli 1 2 (by decide) (by decide) b 0 1 wy (Nat.lt_of_lt_of_le hb h.size) (by omega) (fun j hj => by
    have hs := hx j hj
    cases hv : (smC 2 1 2 : Array Value)[j]? with
    | none => rw [Array.getElem?_eq_none_iff] at hv; simp at hv; omega
    | some v => rw [hv] at hs; exact h.cell hs)) ⟨_, _, _, rfl⟩ hW)
  have hKl : Hid ((key ++ salt).length = 30) := by simp [Hid, hk, hs]
  generalize keysN key salt 3 = K at *
  generalize hKe : key ++ salt = ks at *
  generalize n % 12 = L at *
  have hL2 : (L : Int) ≤ 11 := by omega
  have A1 := Lib.hid (AvB.new w 35 ks)
  have B1 := Lib.hid (show BW w (w.alloc (.cells (ivA .u8 ks) 35)) from (BW.refl w).alloc)
  clear hKe hk hkb hs hsb
  have cU := fun wz g K u gm (hW : CwV wz g K (L : Int) u u gm []) => Lib.hid (cway_used g K (L : Int) u u gm [] wz hW)
  have cX := fun wz g K u gm (hW : CwV wz g K (L : Int) u u gm []) => Lib.hid (cway_nxt g K (L : Int) u u gm [] wz hW)
  go_enter Try.func5, Try.ntmps5
  go_upto_region 1 with (fail)
  generalize w.alloc (.cells (ivA .u8 ks) 35) = w1 at *
  generalize hg1 : w.heap.size = g1 at *
  go_wp2_with fail
  refine Calls.mono (ca w1).out ?_
  rintro e w2 ⟨rfl, hb⟩
  have A2 := Lib.hid (A1.out.bw hb)
  have B2 := Lib.hid (B1.out.trans hb)
  clear hb ca A1 B1
  dsimp only
  go_wp2_with (first | (refine ldA ar30 rfl rfl rfl A2.out hKl.out ?_))
  refine Calls.mono (cN w2).out ?_
  rintro e w3 ⟨g, gm, rfl, hg, hgm, W3, hb⟩
  have hgw : Hid (g1 ≤ g) := by have := B2.out.size; show _ ≤ _; omega
  have B3 := Lib.hid (B2.out.trans hb)
  replace W3 := Lib.hid W3
  clear hb hg hgm A2 B2 cN hKl
  dsimp only
  go_upto_region 5 with (fail)
  go_loopg [6] 14 (fun m' a wx => ∃ j u : Nat, m' = 14 - j ∧ j ≤ 14 ∧ a = .int .i64 (j : Nat) ∧ (j ≤ L → u = j) ∧ (L ≤ j → u = L) ∧ Hid (CwV wx g K (L : Int) u u gm [] ∧ BW w wx))
  case atStart => exact ⟨0, 0, rfl, by omega, rfl, fun _ => rfl, fun h => by omega, W3.out, B3.out⟩
  case round =>
    obtain ⟨j, u, rfl, hj, rfl, hu1, hu2, hp⟩ := hrel
    have hu : u ≤ 11 := by omega
    by_cases hj14 : j < 14
    · have d1 : decide ((j : Int) < 14) = true := by simp; omega
      go_upto_region 7 with (fail)
      have B5 : BW wr (wr.alloc (.cells (smC 2 1 2) 69)) := (BW.refl _).alloc
      have P := HpB.new wr (.cells (smC 2 1 2) 69)
      have W5 := Lib.hid (hp.out.1.bw B5)
      have BB := Lib.hid (hp.out.2.trans B5)
      have cS1 := cS _ g K u gm wr.heap.size hu P.lt (fun i _ => by rw [Nat.zero_add]; exact hp_cell P i) W5.out
      clear P hp
      replace B5 := Lib.hid B5
      by_cases hjL : j < L
      · obtain rfl : u = j := hu1 (by omega)
        have d2 : decide ((u : Int) < (L : Int)) = true := by simp; omega
        have hx : Hid (u < L) := hjL
        clear hjL hu1 hu2 W3 B3 W5
        go_wp2_with fail
        refine Calls.mono cS1.out ?_
        rintro e w6 hq
        obtain ⟨s, c, rfl, W6, T6⟩ : ∃ s c, e = .returned (.tuple #[.slice s (12 + 14) c, .int .i64 0]) ∧ CwV w6 g K (L : Int) (u + 1) (u + 1) gm [] ∧ Still [g] (wr.alloc (.cells (smC 2 1 2) 69)) w6 := by
          cases hq with
          | spent h => have := hx.out; omega
          | yes _ s c he ho hw ht => exact ⟨s, c, he, hw, ht⟩
        have B6 := Lib.hid (BB.out.stP T6 (fun k hk => by obtain rfl : k = g := (by simpa using hk); rw [hg1]; exact hgw.out))
        have cX1 := cX w6 g K (u + 1) gm W6
        push_cast at cX1
        replace W6 := Lib.hid W6
        clear hq T6 cS1 BB B5 cS cU cX
        dsimp only
        go_wp2_with fail
        refine Calls.mono cX1.out ?_
        rintro e w' ⟨rfl, rfl⟩
        dsimp only
        clear cX1 d1 d2
        go_wp2_with fail
        go_roundg (14 - (u + 1))
        case measure => omega
        case rel => exact ⟨u + 1, u + 1, rfl, by omega, by push_cast; rfl, fun _ => rfl, fun h => by have := hx.out; omega, W6.out, B6.out⟩
      · obtain rfl : u = L := hu2 (by omega)
        have d2 : decide ((j : Int) < (u : Int)) = false := by simp; omega
        have hx : Hid (¬ j < u) := hjL
        clear hjL hu1 hu2
        go_wp2_with fail
        refine Calls.mono cS1.out ?_
        rintro e w6 hq
        obtain ⟨rfl, hb⟩ : e = .returned (.tuple #[.slice none 0 0, .int .i64 7]) ∧ BW (wr.alloc (.cells (smC 2 1 2) 69)) w6 := by
          cases hq with
          | spent _ he hb => exact ⟨he, hb⟩
          | yes h => omega
        have W6 := W5.out.bw hb
        have B6 := Lib.hid (BB.out.trans hb)
        have cU1 := cU w6 g K u gm W6
        replace W6 := Lib.hid W6
        clear hq hb cS1 BB B5 cS cU cX W3 B3 W5
        dsimp only
        go_wp2_with fail
        refine Calls.mono cU1.out ?_
        rintro e w' ⟨rfl, rfl⟩
        dsimp only
        clear cU1 d1 d2
        go_wp2_with fail
        go_roundg (14 - (j + 1))
        case measure => omega
        case rel => exact ⟨j + 1, u, rfl, by omega, by push_cast; rfl, fun h => by have := hx.out; omega, fun _ => rfl, W6.out, B6.out⟩
    · have d1 : decide ((j : Int) < 14) = false := by simp; omega
      have BE := Lib.hid hp.out.2.bel
      clear hp cS cU cX W3 B3 hu1 hu2
      go_wp2_with fail
      go_ret
      exact ⟨rfl, hg1 ▸ BE.out⟩
theorem law_srkeys (cs0 : Array Value) (a1 : Int) (w : World) (w0 : Rd w (.scope (.seq (.block 16 (.label 4)) (.seq (.block 14 (.label 4)) .skip))) cs0.toList) (w1 : (Lit.int .u8 a1).wf = true) :
    Calls Try.prog 5 #[.agg cs0, .int .u8 a1] w fun e w' => e = .returned (.bool true) ∧ Below w.heap.size w w' := by
  obtain ⟨k, s, rfl, h1, h2, h3, h4⟩ := cmaster_of_Rd w0
  have b1 := bounds_u8 w1
  obtain ⟨n, rfl⟩ := Int.eq_ofNat_of_zero_le b1.1
  exact keys_walk k s h1 h2 h3 h4 n (by omega) w
end Go.Proofs.Ytikmhlbpefednaa
