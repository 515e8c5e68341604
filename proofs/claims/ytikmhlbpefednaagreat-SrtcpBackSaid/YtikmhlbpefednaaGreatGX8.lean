/- srtcp: what a way answers to any bytes, as plain data; to what a way has sealed. No condition. srtcp.Way: Open. No condition but the sizes'. srtcp.Way: Seal of any packets. No condition but the sizes'. The document's example of control packets sealed: its plain data. No condition. The document's example of control packets sealed. No condition. The reference's way of control packets: New. No condition but the sizes'. The law SrtcpBack. No condition. -/
import Derived.Test.YtikmhlbpefednaaGreatGW2
import Derived.Test.YtikmhlbpefednaaGreatGS2
import Derived.Test.YtikmhlbpefednaaGreatGW4
import Derived.Test.YtikmhlbpefednaaGreatGX6
import Derived.Test.YtikmhlbpefednaaGreatGX7
import Derived.Test.YtikmhlbpefednaaGreatSrO
import Derived.Test.YtikmhlbpefednaaGreatAin
import Derived.Test.YtikmhlbpefednaaGreatBsj
namespace Go.Proofs.YtikmhlbpefednaaGreat
open Go.RowKit
def copenE (K : List Nat) (lim : Int) (used : Nat) (M : List (Nat × Nat × Nat)) (b : List Nat) : Nat :=
 if 1200 < b.length then 3
 else if b.length < 22 then 2
 else if nm b (b.length - 14) 4 < 2 ^ 31 then 3
 else if cfreshE lim used M (nm b 4 4) (nm b (b.length - 14) 4 - 2 ^ 31) ≠ 0 then cfreshE lim used M (nm b 4 4) (nm b (b.length - 14) 4 - 2 ^ 31)
 else if b.drop (b.length - 10) ≠ tagC K (b.take (b.length - 10)) then 4
 else 0
def copenT (K b : List Nat) : List Nat := b.take 8 ++ spinC K (nm b (b.length - 14) 4 - 2 ^ 31) (b.take (b.length - 14))
theorem csealB_len (K B : List Nat) (i : Nat) (h8 : 8 ≤ B.length) : (csealB K B i).length = B.length + 14 := by
 unfold csealB
 rw [List.length_append, csealM_len K B i h8, tagC_len]
theorem cseal_take (K B : List Nat) (i : Nat) (h8 : 8 ≤ B.length) : (csealB K B i).take (B.length + 4) = csealM K B i := by
 unfold csealB
 exact List.take_left' (csealM_len K B i h8)
theorem cseal_drop (K B : List Nat) (i : Nat) (h8 : 8 ≤ B.length) : (csealB K B i).drop (B.length + 4) = tagC K (csealM K B i) := by
 unfold csealB
 exact List.drop_left' (csealM_len K B i h8)
theorem csealM_take (K B : List Nat) (i : Nat) : (csealM K B i).take B.length = B.take 8 ++ spinC K i B := by
 unfold csealM
 rw [List.flatten_cons, List.flatten_cons, List.flatten_cons, List.flatten_nil, List.append_nil, ← List.append_assoc]
 exact List.take_left' (by simp only [spinC, List.length_append, cipN_len, List.length_take, List.length_drop]; omega)
theorem csealM_drop (K B : List Nat) (i : Nat) : (csealM K B i).drop B.length = putB 4 (2147483648 + i) := by
 unfold csealM
 rw [List.flatten_cons, List.flatten_cons, List.flatten_cons, List.flatten_nil, List.append_nil, ← List.append_assoc]
 exact List.drop_left' (by simp only [spinC, List.length_append, cipN_len, List.length_take, List.length_drop]; omega)
theorem cseal_num (K B : List Nat) (i : Nat) (h8 : 8 ≤ B.length) (hi : i < 2 ^ 31) : nm (csealB K B i) B.length 4 = 2 ^ 31 + i := by
 rw [← nm_take _ (B.length + 4) _ _ (Nat.le_refl _), cseal_take K B i h8]
 unfold nm
 rw [csealM_drop, List.take_of_length_le (by rw [putB_len]; omega), numB_putB]
 omega
theorem cseal_src (K B : List Nat) (i : Nat) (h8 : 8 ≤ B.length) : nm (csealB K B i) 4 4 = nm B 4 4 := by
 rw [← nm_take _ (B.length + 4) _ _ (by omega), cseal_take K B i h8, ← nm_take _ B.length _ _ (by omega), csealM_take, ← nm_take (B.take 8 ++ _) 8 4 4 (Nat.le_refl _), List.take_left' (by rw [List.length_take]; omega), nm_take _ _ _ _ (by omega)]
theorem copenE_seal (K B : List Nat) (i : Nat) (h8 : 8 ≤ B.length) (hb : B.length ≤ 1186) (hi : i < 2 ^ 31) (lim : Int) (used : Nat) (M : List (Nat × Nat × Nat)) : copenE K lim used M (csealB K B i) = cfreshE lim used M (nm B 4 4) i := by
 unfold copenE
 have h := csealB_len K B i (by omega)
 have e : (csealB K B i).length - 14 = B.length := by omega
 rw [e, h, if_neg (by omega), if_neg (by omega), cseal_num K B i (by omega) hi, if_neg (by omega), cseal_src K B i (by omega), Nat.add_sub_cancel_left, show B.length + 14 - 10 = B.length + 4 by omega, cseal_take K B i (by omega), cseal_drop K B i (by omega)]
 split
 ·rfl
 ·rename_i h0
  simp only [ne_eq, Decidable.not_not] at h0
  rw [if_neg (fun h => h rfl), h0]
theorem copenT_seal (K B : List Nat) (i : Nat) (h8 : 8 ≤ B.length) (hi : i < 2 ^ 31) : copenT K (csealB K B i) = B := by
 unfold copenT
 have h := csealB_len K B i h8
 have e : (csealB K B i).length - 14 = B.length := by omega
 have e8 : (csealB K B i).take 8 = B.take 8 := by
  have h1 : ((csealB K B i).take (B.length + 4)).take B.length = B.take 8 ++ spinC K i B := by rw [cseal_take K B i h8, csealM_take]
  have h2 := congrArg (List.take 8) h1
  rw [List.take_take, List.take_take, Nat.min_eq_left (by omega), Nat.min_eq_left (by omega), List.take_left' (by rw [List.length_take]; omega)] at h2
  exact h2
 have eB : (csealB K B i).take B.length = B.take 8 ++ spinC K i B := by
  have h1 : ((csealB K B i).take (B.length + 4)).take B.length = B.take 8 ++ spinC K i B := by rw [cseal_take K B i h8, csealM_take]
  rw [List.take_take, Nat.min_eq_left (by omega)] at h1
  exact h1
 rw [e, e8, eB, cseal_num K B i h8 hi, Nat.add_sub_cancel_left]
 have es : nm (B.take 8 ++ spinC K i B) 4 4 = nm B 4 4 := by
  rw [← nm_take (B.take 8 ++ _) 8 4 4 (Nat.le_refl _), List.take_left' (by rw [List.length_take]; omega), nm_take _ _ _ _ (by omega)]
 have ed : (B.take 8 ++ spinC K i B).drop 8 = spinC K i B := List.drop_left' (by rw [List.length_take]; omega)
 have e2 : spinC K i (B.take 8 ++ spinC K i B) = B.drop 8 := by
  have e3 : spinC K i (B.take 8 ++ spinC K i B) = cipN (wordsN (mid K 0 16)) (numB (firstN (mid K 36 14) (nm (B.take 8 ++ spinC K i B) 4 4) i)) ((B.take 8 ++ spinC K i B).drop 8) := rfl
  rw [e3, es, ed]
  unfold spinC
  exact cipN_twice _ _ _
 rw [e2, List.take_append_drop]
end Go.Proofs.YtikmhlbpefednaaGreat

namespace Go.Proofs.YtikmhlbpefednaaGreat
open Go.RowKit
theorem SM.sole (w : World) (x : Value) (ln : Nat) (l : List Nat) (h : SB w x ln l) : SM (w.alloc (.cells #[x] 35)) (.slice (some ⟨w.heap.size, 0, none⟩) 1 1) 1 [l] := by
 refine ⟨rfl, [x], ⟨rfl, by decide, .inr ⟨w.heap.size, 0, 1, rfl, Nat.le_refl _, by decide, by simp, fun j hj => ?_⟩⟩, fun i y hy => ?_⟩
 ·obtain rfl : j = 0 := by omega
  simp [go_sem]
 ·match i, hy with
  | 0, hy => simp at hy; subst hy; exact ⟨ln, h.alloc _⟩
  | i + 1, hy => simp at hy
theorem SB.ownlt {w : World} {v : Value} {n : Nat} {l : List Nat} (h : SB w v n l) (h0 : 0 < n) (k : Nat) (hk : v.ownBlock = some k) : k < w.heap.size := by
 obtain ⟨b, o, cap, rfl, _, _, h3, _⟩ := h.2.2.form h0
 obtain rfl : b = k := by simpa [Value.ownBlock] using hk
 exact h3
theorem Still.ow2 {S0 S : List Nat} {a b c : World} (T : Still S0 a b) (h : Still S b c) (hS : ∀ k ∈ S, k ∈ S0 ∨ a.heap.size ≤ k) : Still S0 a c := by
 refine ⟨h.os.trans T.os, h.tape.trans T.tape, h.output.trans T.output, Nat.le_trans T.size h.size, fun k hk hs => ?_⟩
 rw [h.block k (Nat.lt_of_lt_of_le hk T.size) (fun hm => (hS k hm).elim hs (fun hl => Nat.lt_irrefl _ (Nat.lt_of_lt_of_le hk hl))), T.block k hk hs]
theorem CwV.use {w : World} {g : Nat} {K : List Nat} {lim : Int} {used nxt gm : Nat} {M : List (Nat × Nat × Nat)} (h : CwV w g K lim used nxt gm M) : CwV (w.setCell ⟨g, 51, none⟩ (.int .i64 ((used + 1 : Nat) : Int))) g K lim (used + 1) nxt gm M := by
 refine ⟨?_, h.len, h.byt, h.mp.still (still_sc w g 51 _) (by simpa using h.ne.symm)⟩
 have e : (cwayC K lim used nxt gm).setIfInBounds 51 (.int .i64 ((used + 1 : Nat) : Int)) = cwayC K lim (used + 1) nxt gm := by
  apply Array.ext'
  simp only [cwayC, Array.toList_setIfInBounds, Array.toList_append]
  rw [List.set_append_right _ _ (by simp [ivA, h.len])]
  simp [ivA, h.len]
 have := hp_set h.hp 51 (.int .i64 ((used + 1 : Nat) : Int))
 rw [e] at this
 exact this
theorem cfresh_in {lim : Int} {used : Nat} {M : List (Nat × Nat × Nat)} {src i : Nat} (h : cfreshE lim used M src i = 0) : wFresh (getW M src).1 (getW M src).2 i = true := by
 unfold cfreshE at h
 by_cases h1 : lim ≤ (used : Int)
 ·rw [if_pos h1] at h; cases h
 rw [if_neg h1] at h
 by_cases h2 : hasW M src = false ∧ 8 ≤ M.length
 ·rw [if_pos h2] at h; cases h
 rw [if_neg h2] at h
 by_cases h3 : wFresh (getW M src).1 (getW M src).2 i = false
 ·rw [if_pos h3] at h; cases h
 simpa using h3
theorem goodC (K m t : List Nat) (h : t.length = 10) : goodB (mid K 16 20) m t = decide (t = tagC K m) := by
 unfold goodB tagC
 rw [h]
 simp
inductive CopenPost (g : Nat) (K : List Nat) (lim : Int) (used nxt gm : Nat) (M : List (Nat × Nat × Nat)) (E src i : Nat) (L : List Ctl) (w : World) (e : Ending) (w' : World) : Prop
 | no (h : E ≠ 0) (he : e = .returned (.tuple #[.slice none 0 0, .int .u32 0, .int .i64 (E : Nat)])) (hb : BW w w')
 | yes (h : E = 0) (s : Option Addr) (c : Nat) (he : e = .returned (.tuple #[.slice s L.length c, .int .u32 (src : Nat), .int .i64 0])) (ho : EQ EC 118 w' w.heap.size (.slice s L.length c) L.length L) (hw : CwV w' g K lim (used + 1) nxt gm (setW M src (wMark (getW M src).1 (getW M src).2 i))) (ht : Still [g, gm] w w')
set_option maxRecDepth 100000 in
set_option maxHeartbeats 8000000 in
theorem copen_ok (g : Nat) (K : List Nat) (lim : Int) (used nxt gm : Nat) (M : List (Nat × Nat × Nat)) (sb : Option Addr) (n cb : Nat) (b : List Nat) (L : List Ctl) (hM : MOk M) (hn : n ≤ 1000000) (hu : used ≤ 1000000) (w : World) (hW : CwV w g K lim used nxt gm M) (hv : SB w (.slice sb n cb) n b) (hvo : ∀ k, (Value.slice sb n cb).ownBlock = some k → k ≠ g ∧ k ≠ gm)
  (cR : copenE K lim used M b = 0 → ∀ wz v, SB wz v (n - 14) (copenT K b) → Calls Tryz.prog 61 #[v] wz fun e w' => ∃ so co, e = .returned (.tuple #[.slice so L.length co, .int .i64 0]) ∧ EQ EC 118 w' wz.heap.size (.slice so L.length co) L.length L ∧ BW wz w') :
  Calls Tryz.prog 22 #[.pointer (some ⟨g, 0, none⟩), .slice sb n cb] w (CopenPost g K lim used nxt gm M (copenE K lim used M b) (nm b 4 4) (nm b (b.length - 14) 4 - 2 ^ 31) L w) := by
 obtain ⟨_, _, he, hcb, hmb⟩ := hv.len
 cases he
 unfold maxLen at hmb
 have hbl : b.length = n := hv.1
 rw [hbl]
 have hnm4 := nm_lt b hv.2.1 4 4
 have hnmi := nm_lt b hv.2.1 (n - 14) 4
 have hWW := Lib.hid hW
 have hVV := Lib.hid hv
 have hg := Lib.hid hW.hp.lt
 have hgm := Lib.hid hW.mp.lt
 have hMM := Lib.hid hM
 have hown : Hid (∀ m k, (Value.slice sb m cb).ownBlock = some k → 0 < n → k ≠ g ∧ k ≠ gm ∧ k < w.heap.size) := fun m k hk h0 => by
  have hk' : (Value.slice sb n cb).ownBlock = some k := by
   revert hk
   cases sb <;> simp [Value.ownBlock]
  exact ⟨(hvo k hk').1, (hvo k hk').2, hv.ownlt h0 k hk'⟩
 have hE : copenE K lim used M b = copenE K lim used M b := rfl
 conv at hE => rhs; unfold copenE
 rw [hbl] at hE
 have hT : copenT K b = b.take 8 ++ spinC K (nm b (n - 14) 4 - 2 ^ 31) (b.take (n - 14)) := by unfold copenT; rw [hbl]
 generalize copenE K lim used M b = E at *
 generalize copenT K b = T at *
 clear hW hv hM hvo
 replace hE := Lib.hid hE
 replace hT := Lib.hid hT
 replace cR := Lib.hid cR
 replace hbl := Lib.hid hbl
 by_cases h1 : 1200 < n
 ·have d1 : decide ((1200 : Int) < (n : Int)) = true := by simp; omega
  have hR := hE.out.trans (if_pos h1)
  subst hR
  clear hE hT hg hgm hMM cR
  go_enter Tryz.func22, Tryz.ntmps22
  go_wp2_with fail
  go_ret3
  exact .no (by decide) rfl (BW.refl w)
 have d1 : decide ((1200 : Int) < (n : Int)) = false := by simp; omega
 have hE1 := hE.out.trans (if_neg h1)
 clear hE
 by_cases h2 : n < 22
 ·have d2 : decide ((n : Int) < 22) = true := by simp; omega
  have hR := hE1.trans (if_pos h2)
  subst hR
  clear hE1 hT hg hgm hMM cR
  go_enter Tryz.func22, Tryz.ntmps22
  go_wp2_with fail
  go_ret3
  exact .no (by decide) rfl (BW.refl w)
 have d2 : decide ((n : Int) < 22) = false := by simp; omega
 have hE2 := hE1.trans (if_neg h2)
 clear hE1
 have hn22 : 22 ≤ n := by omega
 have hn1200 : n ≤ 1200 := by omega
 clear h1 h2
 have V1 := Lib.hid (hVV.out.takeW (n - 10) (by omega))
 have V2 := Lib.hid (hVV.out.dropW (n - 10) (by omega))
 have V3 := Lib.hid (hVV.out.takeW (n - 14) (by omega))
 have e10 : ((n : Int) - 10) = ((n - 10 : Nat) : Int) := by omega
 have e14 : (((n - 10 : Nat) : Int) - 4) = ((n - 14 : Nat) : Int) := by omega
 have cN := fun wz (h : BW w wz) => Lib.hid (num_ok (.slice sb (n - 10) cb) (n - 10) (b.take (n - 10)) (n - 14) 4 ((n - 14 : Nat) : Int) 4 (by decide) (by decide) (by omega) rfl rfl wz (V1.out.bw h))
 rw [show numB (((b.take (n - 10)).drop (n - 14)).take 4) = nm (b.take (n - 10)) (n - 14) 4 from rfl, nm_take _ _ _ _ (by omega)] at cN
 have cS := fun wz (h : BW w wz) => Lib.hid (csource_ok sb n cb b (by omega) wz (hVV.out.bw h))
 have hb1 := Lib.hid V1.out.1
 have hb3 := Lib.hid V3.out.1
 have hTs := hT.out
 have hsrcT : nm (b.take (n - 14)) 4 4 = nm b 4 4 := nm_take _ _ _ _ (by omega)
 have e8 : (b.take (n - 14)).take 8 = b.take 8 := by rw [List.take_take, Nat.min_eq_left (by omega)]
 generalize b.take (n - 10) = b1 at *
 generalize b.drop (n - 10) = b2 at *
 generalize b.take (n - 14) = b3 at *
 generalize hq : n - 10 = q at *
 generalize hr : n - 14 = r at *
 generalize nm b 4 4 = src at *
 generalize hI : nm b r 4 - 2 ^ 31 = i at *
 generalize nm b r 4 = N at *
 replace hI := Lib.hid hI
 have hcH := fun w => run_cut_h (P := Tryz.prog) Tryz.underlying35 info_u8 sb q cb r (r : Int) rfl .i64 (by omega) w
 have hN2 : (N : Int) ≤ 4294967295 := by omega
 have hr12 : (r : Int) ≤ 1186 := by omega
 have hq8 : Hid (8 ≤ r ∧ r ≤ q ∧ q ≤ n ∧ q ≤ 1200 ∧ q ≤ cb ∧ r ≤ cb) := by show _ ∧ _; omega
 replace hE2 := Lib.hid hE2
 replace e10 := Lib.hid e10
 replace hq := Lib.hid hq
 replace hr := Lib.hid hr
 replace hTs := Lib.hid hTs
 replace hsrcT := Lib.hid hsrcT
 replace e8 := Lib.hid e8
 go_enter Tryz.func22, Tryz.ntmps22
 go_upto_region 5 with (fail)
 refine wp_region_gg [] [] [] (by kernel_rfl) ?_
 refine hoist [] [] (a1 := ?_) 0 rfl (by kernel_rfl) (.inl ⟨rfl, rfl⟩) rfl rfl rfl (fun x K hK => ?_) ?_
 rotate_left
 ·go_big_quiet_op
  exact hK
 refine hoist [] [] (a1 := ?_) 1 rfl (by kernel_rfl) (.inl ⟨rfl, rfl⟩) rfl rfl rfl (fun x K hK => ?_) ?_
 rotate_left
 ·go_big_quiet_op
  exact hK
 refine hoist [] [] (a1 := ?_) 2 rfl (by kernel_rfl) (.inl ⟨rfl, rfl⟩) rfl rfl rfl (fun x K hK => ?_) ?_
 rotate_left
 ·go_big_quiet_op
  exact hK
 refine hoist [] [] (a1 := ?_) 3 rfl (by kernel_rfl) (.inl ⟨rfl, rfl⟩) rfl rfl rfl (fun x K hK => ?_) ?_
 rotate_left
 ·go_big_quiet_op
  exact hK
 refine hoist [] [] (a1 := ?_) 4 rfl (by kernel_rfl) (.inl ⟨rfl, rfl⟩) rfl rfl rfl (fun x K hK => ?_) ?_
 rotate_left
 ·refine qlCutH (hi := q) rfl (by rfl) (by rfl) e10.out (by have := hq8.out; omega) (by simp only [Act.put, List.setIfInBounds_toArray, List.set_cons_succ, List.set_cons_zero]; rfl) ?_
  exact hK
 refine hoist [] [] (a1 := ?_) 5 rfl (by kernel_rfl) (.inl ⟨rfl, rfl⟩) rfl rfl rfl (fun x K hK => ?_) ?_
 rotate_left
 ·go_big_quiet_op
  exact hK
 refine hoist [] [] (a1 := ?_) 6 rfl (by kernel_rfl) (.inl ⟨rfl, rfl⟩) rfl rfl rfl (fun x K hK => ?_) ?_
 rotate_left
 ·go_big_quiet_op
  exact hK
 refine hoist [] [] (a1 := ?_) 7 rfl (by kernel_rfl) (.inl ⟨rfl, rfl⟩) rfl rfl rfl (fun x K hK => ?_) ?_
 rotate_left
 ·go_big_quiet_op
  exact hK
 refine hoist [] [] (a1 := ?_) 8 rfl (by kernel_rfl) (.inl ⟨rfl, rfl⟩) rfl rfl rfl (fun x K hK => ?_) ?_
 rotate_left
 ·go_big_quiet_op
  exact hK
 refine hoist [] [] (a1 := ?_) 9 rfl (by kernel_rfl) (.inl ⟨rfl, rfl⟩) rfl rfl rfl (fun x K hK => ?_) ?_
 rotate_left
 ·refine qlCutL (lo := q) rfl (by rfl) (by rfl) e10.out (by have := hq8.out; omega) (by simp only [Act.put, List.setIfInBounds_toArray, List.set_cons_succ, List.set_cons_zero]; rfl) ?_
  exact hK
 refine hoist [] [] (a1 := ?_) 10 rfl (by kernel_rfl) (.inl ⟨rfl, rfl⟩) rfl rfl rfl (fun x K hK => ?_) ?_
 rotate_left
 ·go_big_quiet_op
  exact hK
 refine hoist [] [] (a1 := ?_) 11 rfl (by kernel_rfl) (.inl ⟨rfl, rfl⟩) rfl rfl rfl (fun x K hK => ?_) ?_
 rotate_left
 ·go_big_quiet_op
  exact hK
 refine done (by kernel_rfl) (fun xr => ?_)
 have B1 := Lib.hid xr.bw
 generalize xr.now = w1 at *
 have hz : Hid (n - q = 10) := by have := hq.out; show _ = _; omega
 generalize n - q = z at *
 generalize cutA sb q cb 1 = sb2 at *
 generalize cb - q = cb2 at *
 go_wp2_with fail
 refine Calls.mono (cN w1 B1.out).out ?_
 rintro e w' ⟨rfl, rfl⟩
 dsimp only
 clear cN
 by_cases h3 : N < 2 ^ 31
 ·have d3 : decide ((N : Int) < 2147483648) = true := by simp; omega
  have hR := hE2.out.trans (if_pos h3)
  subst hR
  clear hE2 hg hgm hMM cR h3
  go_wp2_with fail
  go_ret3
  exact .no (by decide) rfl B1.out
 have d3 : decide ((N : Int) < 2147483648) = false := by simp; omega
 have hE3 := hE2.out.trans (if_neg h3)
 have hT2 := hTs.out
 have hi := hI.out
 have eN : (N : Int) - 2147483648 = (i : Int) := by omega
 have hN1 : (2147483648 : Int) ≤ (N : Int) := by omega
 have hi2 : (i : Int) ≤ 2147483647 := by omega
 have hi3 : Hid (i ≤ 2147483647) := by show _ ≤ _; omega
 have hs4 : Hid (src < 4294967296) := Lib.hid (by omega)
 clear hE2 hi h3 hTs hI
 replace hE3 := Lib.hid hE3
 replace hT2 := Lib.hid hT2
 go_upto_region 9 with (fail)
 go_wp2_with fail
 refine Calls.mono (cS w1 B1.out).out ?_
 rintro e w' ⟨rfl, rfl⟩
 dsimp only
 clear cS d3 eN hN1 hN2
 have cF := fun wz (h : BW w wz) => Lib.hid (cfresh_ok g K lim used nxt gm M src i hMM.out hs4.out (by have := hi3.out; omega) wz (hWW.out.bw h))
 have hfi := @cfresh_in lim used M src i
 have hgb := Lib.hid (getW_b hMM.out src)
 generalize cfreshE lim used M src i = F at *
 generalize hvb : getW M src = vb at *
 obtain ⟨nx, bs⟩ := vb
 dsimp only at hfi cF hgb
 replace hvb := Lib.hid hvb
 replace hfi := Lib.hid hfi
 go_wp2_with fail
 refine Calls.mono (cF w1 B1.out).out ?_
 rintro e w2 ⟨rfl, hb⟩
 have B2 := Lib.hid (B1.out.trans hb)
 clear cF hb B1
 dsimp only
 have BC : BW w2 (w2.alloc (.cells #[.int .i64 (nx : Nat), .int .u64 (bs : Nat)] 93)) := (BW.refl w2).alloc
 have Y := Lib.hid (show WinV _ w2.heap.size nx bs from HpB.new w2 (.cells #[.int .i64 (nx : Nat), .int .u64 (bs : Nat)] 93))
 have hB2 := Lib.hid B2.out.size
 have B3 := Lib.hid (B2.out.trans BC)
 clear BC B2
 go_upto_region 11 with (fail)
 generalize (w2.alloc _) = w3 at *
 generalize w2.heap.size = g2 at *
 by_cases hf : F = 0
 rotate_left
 ·have d4 : ((F : Int) != 0) = true := by simpa using hf
  have hR := hE3.out.trans (if_pos hf)
  subst hR
  clear hE3 hg hgm hMM cR hT2 Y
  replace hf := Lib.hid hf
  go_wp2_with fail
  go_ret3
  exact .no hf.out rfl B3.out
 have d4 : ((F : Int) != 0) = false := by simpa using hf
 have hE4 := hE3.out.trans (if_neg (fun h => h hf))
 have hfr := Lib.hid (hfi.out hf)
 clear hE3 hfi hf
 replace hE4 := Lib.hid hE4
 go_upto_region 13 with (fail)
 clear d4
 have BD : BW w3 (w3.alloc (.cells #[.slice sb q cb] 35)) := (BW.refl w3).alloc
 have S4 := Lib.hid (SM.sole w3 (.slice sb q cb) q b1 (V1.out.bw B3.out))
 have W4 := Lib.hid (hWW.out.bw (B3.out.trans BD))
 have cC := Lib.hid (check_ok (some ⟨g, 16, none⟩) 20 20 sb2 z cb2 (some ⟨w3.heap.size, 0, none⟩) 1 1 (mid K 16 20) b2 [b1] (by omega) (by omega) (by have := hb1.out; have := hq8.out; simp; omega) _ W4.out.auth (V2.out.bw (B3.out.trans BD)) S4.out)
 rw [show [b1].flatten = b1 by simp, goodC K b1 b2 (by rw [V2.out.1]; exact hz.out)] at cC
 have Y4 := Lib.hid (show WinV _ g2 nx bs from HpB.bw Y.out BD)
 have B4 := Lib.hid (B3.out.trans BD)
 clear S4 B3 Y W4
 replace BD := Lib.hid BD
 go_wp2_with fail
 refine Calls.mono cC.out ?_
 rintro e w5 ⟨rfl, hb⟩
 replace hb : BW _ w5 := BW.of hb
 have Y5 := Lib.hid (show WinV _ g2 nx bs from HpB.bw Y4.out hb)
 have B5 := Lib.hid (B4.out.trans hb)
 clear hb B4 Y4 cC BD V1 V2
 dsimp only
 by_cases ht : b2 = tagC K b1
 rotate_left
 ·rw [decide_eq_false ht]
  have hR := hE4.out.trans (if_pos ht)
  subst hR
  clear hE4 hg hgm hMM cR hT2 Y5 hfr hgb
  go_wp2_with fail
  go_ret3
  exact .no (by decide) rfl B5.out
 rw [decide_eq_true ht]
 have hE5 := hE4.out.trans (if_neg (fun h => h ht))
 subst hE5
 have cR2 := fun wz v h => Lib.hid (cR.out rfl wz v h)
 clear hE4 ht cR
 have W6 := Lib.hid (hWW.out.bw B5.out)
 have S6 := Lib.hid (B5.out.still [g, gm])
 have V6 := Lib.hid (V3.out.bw B5.out)
 have hs6 := Lib.hid B5.out.size
 have cm := Lib.hid (mark_ok g2 nx bs i (by have := hgb.out; omega) hgb.out.2 (by have := hi3.out; omega) hfr.out w5 Y5.out)
 generalize hmk : wMark nx bs i = mk at *
 obtain ⟨nx', bs'⟩ := mk
 dsimp only at cm
 have hh0 : Hid (g < g2 ∧ gm < g2) := by have := hg.out; have := hgm.out; have := hB2.out; show _ ∧ _; omega
 replace hmk := Lib.hid hmk
 clear hWW V3 B5 hgb hfr hVV
 go_upto_region 15 with (fail)
 go_wp2_with fail
 refine Calls.mono cm.out ?_
 rintro e w7 ⟨rfl, Y7, hs⟩
 dsimp only
 have W7 := Lib.hid (W6.out.still hs (by have := hh0.out; simp; omega) (by have := hh0.out; simp; omega))
 have S7 := Lib.hid (S6.out.ow2 hs (fun k hk => .inr (by obtain rfl : k = g2 := (by simpa using hk); exact hB2.out)))
 have V7 := Lib.hid (V6.out.still hs (fun k hk hm => by obtain rfl : k = g2 := (by simpa using hm); have := hown.out r k hk (by omega); have := hB2.out; omega))
 have hs7 := Lib.hid (Nat.le_trans hs6.out hs.size)
 have l0 : ∀ y : LaterS [] w7, y.now.cell? _ = _ := fun y => y.bw.cell W7.out.map
 have l1 : ∀ y : LaterS [] w7, y.now.cell? _ = _ := fun y => y.bw.cell ((hp_cell Y7 0).trans (show _ = some (.int .i64 (nx' : Nat)) from rfl))
 have l2 : ∀ y : LaterS [] w7, y.now.cell? _ = _ := fun y => y.bw.cell ((hp_cell Y7 1).trans (show _ = some (.int .u64 (bs' : Nat)) from rfl))
 clear S6 W6 cm hs V6 hs6 Y5
 replace Y7 := Lib.hid Y7
 go_upto_region 16 with (fail)
 refine wp_region_gg [] [] [6] (by kernel_rfl) ?_
 refine hoist [] [] (a1 := ?_) 0 rfl (by kernel_rfl) (.inl ⟨rfl, rfl⟩) rfl rfl rfl (fun x K hK => ?_) ?_
 rotate_left
 ·go_big_quiet_op
  exact hK
 refine hoist [] [] (a1 := ?_) 1 rfl (by kernel_rfl) (.inl ⟨rfl, rfl⟩) rfl rfl rfl (fun x K hK => ?_) ?_
 rotate_left
 ·go_big_quiet_op
  exact hK
 refine hoist [] [] (a1 := ?_) 2 rfl (by kernel_rfl) (.inl ⟨rfl, rfl⟩) rfl rfl rfl (fun x K hK => ?_) ?_
 rotate_left
 ·go_big_quiet_op
  exact hK
 refine hoist [] [] (a1 := ?_) 3 rfl (by kernel_rfl) (.inl ⟨rfl, rfl⟩) rfl rfl rfl (fun x K hK => ?_) ?_
 rotate_left
 ·go_big_quiet_op
  exact hK
 refine hoist [] [] (a1 := ?_) 4 rfl (by kernel_rfl) (.inl ⟨rfl, rfl⟩) rfl rfl rfl (fun x K hK => ?_) ?_
 rotate_left
 ·go_big_quiet_op
  exact hK
 refine hoist [] [] (a1 := ?_) 5 rfl (by kernel_rfl) (.inl ⟨rfl, rfl⟩) rfl rfl rfl (fun x K hK => ?_) ?_
 rotate_left
 ·go_big_quiet_op
  exact hK
 refine tail 6 rfl (by kernel_rfl) rfl (fun xr => ?_)
 simp only [List.drop_succ_cons, List.drop_zero]
 have W8 := W7.out.bw xr.bw
 have S8 := Lib.hid (S7.out.bw' xr.bw)
 have V8 := Lib.hid (V7.out.bw xr.bw)
 have hs8 := Lib.hid (Nat.le_trans hs7.out xr.bw.size)
 obtain ⟨w9, hrun, hmp, hst⟩ := upd_w W8.mp hMM.out src hs4.out (nx', bs')
 dsimp only at hrun
 clear l0 l1 l2 W7 S7 V7 hs7 Y7
 generalize xr.now = w8 at *
 have W9 : Hid (CwV w9 g K lim used nxt gm (setW M src (nx', bs'))) := ⟨W8.hp.st hst (by simpa using W8.ne), W8.len, W8.byt, hmp⟩
 have S9 := Lib.hid (S8.out.ow2 hst (fun k hk => .inl (by obtain rfl : k = gm := (by simpa using hk); simp)))
 have V9 := Lib.hid (V8.out.still hst (fun k hk hm => by obtain rfl : k = gm := (by simpa using hm); have := hown.out r k hk (by omega); omega))
 have hs9 := Lib.hid (Nat.le_trans hs8.out hst.size)
 generalize hMe : setW M src (nx', bs') = M' at *
 clear W8 S8 hmp hst V8 hs8
 replace hMe := Lib.hid hMe
 go_upto_region 17 with (fail)
 clear hrun hnmi hnm4
 have z5 := W9.out.used
 have f5 := hp_frz W9.out.hp 51
 have W10 := Lib.hid W9.out.use
 have T10 := still_sc w9 g 51 (.int .i64 ((used + 1 : Nat) : Int))
 have S10 := Lib.hid (S9.out.trans (T10.weaken (by simp)))
 have V10 := Lib.hid (V9.out.still T10 (fun k hk hm => by obtain rfl : k = g := (by simpa using hm); have := hown.out r k hk (by omega); omega))
 have hs10 := Lib.hid (Nat.le_trans hs9.out T10.size)
 clear W9 S9 T10 V9 hs9
 push_cast at W10 S10 V10 hs10
 go_upto_region 18 with (fail)
 clear z5 f5
 generalize (w9.setCell _ _) = w10 at *
 go_upto_region 19 with (fail)
 clear hcH e14
 have V8 := Lib.hid (V10.out.takeW 8 hq8.out.1)
 have hT3 := hT2.out
 rw [← e8.out] at hT3
 have cu := fun wz (h : BW w10 wz) => Lib.hid (cturn_ok g K lim (used + 1) nxt gm M' sb r cb b3 i hq8.out.1 (by have := hi3.out; omega) (by have := hq8.out; omega) wz (W10.out.bw h) (V10.out.bw h))
 have hTl : T.length = r := by
  rw [hT3]
  unfold spinC
  rw [List.length_append, cipN_len, List.length_take, List.length_drop, hb3.out]
  have := hq8.out
  omega
 generalize spinC K i b3 = sp at *
 generalize b3.take 8 = b8 at *
 have hTf : [b8, sp].flatten = T := by rw [hT3]; simp
 have cn := fun wz gz (h : SM wz (.slice (some ⟨gz, 0, none⟩) 2 2) 2 [b8, sp]) => Lib.hid (concat_ok (.slice (some ⟨gz, 0, none⟩) 2 2) 2 [b8, sp] (by rw [hTf, hTl]; have := hq8.out; omega) wz h)
 rw [hTf, hTl] at cn
 clear hT2 hT3 hTf hTl e8 hb3
 have h8c : 8 ≤ cb := by have := hq8.out; omega
 generalize hnl : L.length = nl at *
 refine wp_region_gg [] [] [] (by kernel_rfl) ?_
 refine hoist [] [] (a1 := ?_) 0 rfl (by kernel_rfl) (.inl ⟨rfl, rfl⟩) rfl rfl rfl (fun x K hK => ?_) ?_
 rotate_left
 ·go_big_quiet_op
  exact hK
 refine hoist [] [] (a1 := ?_) 1 rfl (by kernel_rfl) (.inl ⟨rfl, rfl⟩) rfl rfl rfl (fun x K hK => ?_) ?_
 rotate_left
 ·refine qlCutH (hi := 8) rfl (by rfl) (by rfl) rfl h8c (by simp only [Act.put, List.setIfInBounds_toArray, List.set_cons_succ, List.set_cons_zero]; rfl) ?_
  exact hK
 refine hoist [] [] (a1 := ?_) 2 rfl (by kernel_rfl) (.inl ⟨rfl, rfl⟩) rfl rfl rfl (fun x K hK => ?_) ?_
 rotate_left
 ·go_big_quiet_op
  exact hK
 refine hoist [] [] (a1 := ?_) 3 rfl (by kernel_rfl) (.inl ⟨rfl, rfl⟩) rfl rfl rfl (fun x K hK => ?_) ?_
 rotate_left
 ·go_big_quiet_op
  exact hK
 refine hoist [] [] (a1 := ?_) 4 rfl (by kernel_rfl) (.inl ⟨rfl, rfl⟩) rfl rfl rfl (fun x K hK => ?_) ?_
 rotate_left
 ·go_big_quiet_op
  exact hK
 refine effect 5 rfl (by kernel_rfl) (by kernel_rfl) rfl (fun x5 K hK => ?_)
 go_simp
 refine Calls.mono (cu x5.now x5.bw).out ?_
 rintro e w11 ⟨s11, c11, rfl, O11, hb⟩
 refine hK _ _ (hb.still []) ?_
 clear hK K
 have B11 := Lib.hid (x5.bw.trans hb)
 replace O11 := Lib.hid O11
 clear hb cu
 try simp only [Act.put, List.setIfInBounds_toArray, List.set_cons_succ, List.set_cons_zero]
 refine effect 6 rfl (by kernel_rfl) (by kernel_rfl) rfl (fun x6 K hK => ?_)
 go_simp
 refine hK _ _ (Still.of_below ((Below.refl _ _).alloc (Nat.le_refl _) _)) ?_
 clear hK K
 have hb := x6.bw.trans ((BW.refl x6.now).alloc (o := .cells #[.slice sb 8 cb, .slice s11 (r - 8) c11] 35))
 have B12 := Lib.hid (B11.out.trans hb)
 have S12 := Lib.hid (SM.two x6.now (.slice sb 8 cb) 8 b8 (.slice s11 (r - 8) c11) (r - 8) sp (V8.out.bw (B11.out.trans x6.bw)) (O11.out.bw x6.bw).sb)
 clear hb B11 O11
 generalize (x6.now.alloc _) = w12 at *
 generalize x6.now.heap.size = g12 at *
 try simp only [Act.put, List.setIfInBounds_toArray, List.set_cons_succ, List.set_cons_zero]
 refine effect 7 rfl (by kernel_rfl) (by kernel_rfl) rfl (fun x7 K hK => ?_)
 go_simp
 refine Calls.mono (cn x7.now g12 (S12.out.bw x7.bw)).out ?_
 rintro e w13 ⟨v13, rfl, O13, hb⟩
 obtain ⟨s13, c13, rfl, _, _⟩ := O13.len
 replace hb : BW x7.now w13 := BW.of hb
 refine hK _ _ (hb.still []) ?_
 clear hK K
 have B13 := Lib.hid (B12.out.trans (x7.bw.trans hb))
 replace O13 := Lib.hid O13
 clear hb cn S12 B12
 try simp only [Act.put, List.setIfInBounds_toArray, List.set_cons_succ, List.set_cons_zero]
 refine effect 8 rfl (by kernel_rfl) (by kernel_rfl) rfl (fun x8 K hK => ?_)
 go_simp
 refine Calls.mono (cR2 x8.now _ (O13.out.bw x8.bw).sb).out ?_
 rintro e w14 ⟨so, co, rfl, Q, hb⟩
 refine hK _ _ (hb.still []) ?_
 clear hK K
 have Q14 := Lib.hid (Q.up (base' := w.heap.size) (by have := hs10.out; have := B13.out.size; have := x8.bw.size; omega))
 have B14 := Lib.hid (B13.out.trans (x8.bw.trans hb))
 clear hb cR2 O13 B13 Q
 try simp only [Act.put, List.setIfInBounds_toArray, List.set_cons_succ, List.set_cons_zero]
 refine hoist [] [] (a1 := ?_) 9 rfl (by kernel_rfl) (.inl ⟨rfl, rfl⟩) rfl rfl rfl (fun x K hK => ?_) ?_
 rotate_left
 ·go_big_quiet_op
  exact hK
 refine hoist [] [] (a1 := ?_) 10 rfl (by kernel_rfl) (.inl ⟨rfl, rfl⟩) rfl rfl rfl (fun x K hK => ?_) ?_
 rotate_left
 ·go_big_quiet_op
  exact hK
 refine hoist [] [] (a1 := ?_) 11 rfl (by kernel_rfl) (.inl ⟨rfl, rfl⟩) rfl rfl rfl (fun x K hK => ?_) ?_
 rotate_left
 ·go_big_quiet_op
  exact hK
 refine hoist [] [] (a1 := ?_) 12 rfl (by kernel_rfl) (.inl ⟨rfl, rfl⟩) rfl rfl rfl (fun x K hK => ?_) ?_
 rotate_left
 ·go_big_quiet_op
  exact hK
 refine hoist [] [] (a1 := ?_) 13 rfl (by kernel_rfl) (.inl ⟨rfl, rfl⟩) rfl rfl rfl (fun x K hK => ?_) ?_
 rotate_left
 ·go_big_quiet_op
  exact hK
 refine done (by kernel_rfl) (fun xr => ?_)
 have Q15 := Lib.hid (Q14.out.bw xr.bw)
 have W15 := Lib.hid (W10.out.bw (B14.out.trans xr.bw))
 have S15 := Lib.hid (S10.out.bw' (B14.out.trans xr.bw))
 clear Q14 B14 V8 V10 W10 S10
 go_wp2_with fail
 go_ret3
 subst hnl
 exact .yes rfl so co rfl Q15.out (by rw [hvb.out]; dsimp only; rw [hmk.out, hMe.out]; exact W15.out) S15.out
end Go.Proofs.YtikmhlbpefednaaGreat

namespace Go.Proofs.YtikmhlbpefednaaGreat
open Go.RowKit
set_option maxRecDepth 100000 in
set_option maxHeartbeats 8000000 in
theorem cseal_arg (g : Nat) (K : List Nat) (lim : Int) (used nxt gm : Nat) (M : List (Nat × Nat × Nat)) (lv : Value) (hx : nxt < 16) (hl : ¬ lim ≤ (used : Int)) (w : World) (cW : ∀ wz, BW w wz → Calls Tryz.prog 53 #[lv] wz fun e w' => ∃ s nb c, ∃ er : Int, e = .returned (.tuple #[.slice s nb c, .int .i64 er]) ∧ (er ≠ 0 ∨ nb < 8 ∨ 1186 < nb) ∧ nb ≤ 1000000 ∧ BW wz w') (hlv : ∃ sa n cap, lv = .slice sa n cap) (hW : CwV w g K lim used nxt gm M) :
  Calls Tryz.prog 21 #[.pointer (some ⟨g, 0, none⟩), lv] w fun e w' => e = .returned (.tuple #[.slice none 0 0, .int .i64 1]) ∧ BW w w' := by
 obtain ⟨sa, nl, cl_, rfl⟩ := hlv
 have cWW := fun wz h => Lib.hid (cW wz h)
 have l0 : ∀ y : LaterS [] w, y.now.cell? _ = _ := fun y => (hW.bw y.bw).lim
 have l1 : ∀ y : LaterS [] w, y.now.cell? _ = _ := fun y => (hW.bw y.bw).used
 have l2 : ∀ y : LaterS [] w, y.now.cell? _ = _ := fun y => (hW.bw y.bw).nxt
 have d2 : decide ((2147483648 : Int) ≤ (nxt : Int)) = false := by simp; omega
 have d1 : decide (lim ≤ (used : Int)) = false := by simpa using hl
 clear hW cW hl
 go_enter Tryz.func21, Tryz.ntmps21
 go_upto_region 1 with (fail)
 refine wp_region_gg [] [] [] (by kernel_rfl) ?_
 refine hoist [] [] (a1 := ?_) 0 rfl (by kernel_rfl) (.inl ⟨rfl, rfl⟩) rfl rfl rfl (fun x K hK => ?_) ?_
 rotate_left
 ·go_big_quiet_op
  exact hK
 refine hoist [] [] (a1 := ?_) 1 rfl (by kernel_rfl) (.inl ⟨rfl, rfl⟩) rfl rfl rfl (fun x K hK => ?_) ?_
 rotate_left
 ·go_big_quiet_op
  exact hK
 refine hoist [] [] (a1 := ?_) 2 rfl (by kernel_rfl) (.inl ⟨rfl, rfl⟩) rfl rfl rfl (fun x K hK => ?_) ?_
 rotate_left
 ·go_big_quiet_op
  exact hK
 refine hoist [] [] (a1 := ?_) 3 rfl (by kernel_rfl) (.inl ⟨rfl, rfl⟩) rfl rfl rfl (fun x K hK => ?_) ?_
 rotate_left
 ·go_big_quiet_op
  exact hK
 refine hoist [] [] (a1 := ?_) 4 rfl (by kernel_rfl) (.inl ⟨rfl, rfl⟩) rfl rfl rfl (fun x K hK => ?_) ?_
 rotate_left
 ·go_big_quiet_op
  exact hK
 refine hoist [] [] (a1 := ?_) 5 rfl (by kernel_rfl) (.inl ⟨rfl, rfl⟩) rfl rfl rfl (fun x K hK => ?_) ?_
 rotate_left
 ·go_big_quiet_op
  exact hK
 refine hoist [] [] (a1 := ?_) 6 rfl (by kernel_rfl) (.inl ⟨rfl, rfl⟩) rfl rfl rfl (fun x K hK => ?_) ?_
 rotate_left
 ·go_big_quiet_op
  exact hK
 refine hoist [] [] (a1 := ?_) 7 rfl (by kernel_rfl) (.inl ⟨rfl, rfl⟩) rfl rfl rfl (fun x K hK => ?_) ?_
 rotate_left
 ·go_big_quiet_op
  exact hK
 refine hoist [] [] (a1 := ?_) 8 rfl (by kernel_rfl) (.inl ⟨rfl, rfl⟩) rfl rfl rfl (fun x K hK => ?_) ?_
 rotate_left
 ·go_big_quiet_op
  exact hK
 refine hoist [] [] (a1 := ?_) 9 rfl (by kernel_rfl) (.inl ⟨rfl, rfl⟩) rfl rfl rfl (fun x K hK => ?_) ?_
 rotate_left
 ·go_big_quiet_op
  exact hK
 refine hoist [] [] (a1 := ?_) 10 rfl (by kernel_rfl) (.inl ⟨rfl, rfl⟩) rfl rfl rfl (fun x K hK => ?_) ?_
 rotate_left
 ·go_big_quiet_op
  exact hK
 refine hoist [] [] (a1 := ?_) 11 rfl (by kernel_rfl) (.inl ⟨rfl, rfl⟩) rfl rfl rfl (fun x K hK => ?_) ?_
 rotate_left
 ·go_big_quiet_op
  exact hK
 refine hoist [] [] (a1 := ?_) 12 rfl (by kernel_rfl) (.inl ⟨rfl, rfl⟩) rfl rfl rfl (fun x K hK => ?_) ?_
 rotate_left
 ·go_big_quiet_op
  exact hK
 refine hoist [] [] (a1 := ?_) 13 rfl (by kernel_rfl) (.inl ⟨rfl, rfl⟩) rfl rfl rfl (fun x K hK => ?_) ?_
 rotate_left
 ·go_big_quiet_op
  exact hK
 refine hoist [] [] (a1 := ?_) 14 rfl (by kernel_rfl) (.inl ⟨rfl, rfl⟩) rfl rfl rfl (fun x K hK => ?_) ?_
 rotate_left
 ·go_big_quiet_op
  exact hK
 refine hoist [] [] (a1 := ?_) 15 rfl (by kernel_rfl) (.inl ⟨rfl, rfl⟩) rfl rfl rfl (fun x K hK => ?_) ?_
 rotate_left
 ·go_big_quiet_op
  exact hK
 refine done (by kernel_rfl) (fun xr => ?_)
 have B1 := Lib.hid xr.bw
 clear l0 l1 l2
 generalize xr.now = w1 at *
 go_wp2_with fail
 refine Calls.mono (cWW w1 B1.out).out ?_
 rintro e w2 ⟨s2, nb, c2, er, rfl, hbad, hnb, hb⟩
 have B2 := Lib.hid (B1.out.trans hb)
 clear hb cWW d1 d2 B1
 dsimp only
 by_cases h1 : er = 0
 rotate_left
 ·have e1 : ((er : Int) != 0) = true := by simpa using h1
  clear hbad h1
  go_wp2_with fail
  go_ret2
  exact ⟨rfl, B2.out⟩
 have e1 : ((er : Int) != 0) = false := by simpa using h1
 by_cases h2 : nb < 8
 ·have e2 : decide ((nb : Int) < 8) = true := by simp; omega
  clear hbad h1 h2
  go_wp2_with fail
  go_ret2
  exact ⟨rfl, B2.out⟩
 have e2 : decide ((nb : Int) < 8) = false := by simp; omega
 have h3 : 1186 < nb := by
  rcases hbad with h | h | h
  ·exact absurd h1 h
  ·omega
  ·exact h
 have e3 : decide ((1200 : Int) < (nb : Int) + 4 + 10) = true := by simp; omega
 have e4 : decide ((1200 : Int) < (nb : Int) + 14) = true := by simp; omega
 clear hbad h1 h2
 go_wp2_with fail
 go_ret2
 exact ⟨rfl, B2.out⟩
def sealOk (L : List Ctl) : Bool := okW L && decide (8 ≤ (partsB L).length ∧ (partsB L).length ≤ 1186)
inductive SealAny (g : Nat) (K : List Nat) (lim : Int) (used nxt gm : Nat) (M : List (Nat × Nat × Nat)) (L : List Ctl) (w : World) (e : Ending) (w' : World) : Prop
 | arg (h : sealOk L = false) (he : e = .returned (.tuple #[.slice none 0 0, .int .i64 1])) (hb : BW w w')
 | yes (h : sealOk L = true) (s : Option Addr) (c : Nat) (he : e = .returned (.tuple #[.slice s ((partsB L).length + 14) c, .int .i64 0])) (ho : OB w' w.heap.size 5 (.slice s ((partsB L).length + 14) c) ((partsB L).length + 14) (csealB K (partsB L) nxt)) (hw : CwV w' g K lim (used + 1) (nxt + 1) gm M) (ht : Still [g] w w')
theorem cseal_any (g : Nat) (K : List Nat) (lim : Int) (used nxt gm : Nat) (M : List (Nat × Nat × Nat)) (L : List Ctl) (n : Nat) (lv : Value) (hn : n ≤ 1000) (hu : used ≤ 1000) (hx : nxt < 16) (hl : ¬ lim ≤ (used : Int)) (hwf : ∀ c ∈ L, CtlWf c) (hsm : ∀ c ∈ L, CtlSm c) (w : World) (hv : CtlsR w lv n L) (hW : CwV w g K lim used nxt gm M) :
  Calls Tryz.prog 21 #[.pointer (some ⟨g, 0, none⟩), lv] w (SealAny g K lim used nxt gm M L w) := by
 have hlv : ∃ sa n cap, lv = .slice sa n cap := by
  obtain ⟨sa, cap, e, _, _⟩ := hv.sl
  exact ⟨sa, n, cap, e⟩
 cases hs : sealOk L with
 | true =>
  unfold sealOk at hs
  simp only [Bool.and_eq_true, decide_eq_true_eq] at hs
  refine (cseal_ok g K lim used nxt gm M lv (partsB L).length (partsB L) hs.2.1 hs.2.2 hu hx w (fun wz h => (write_ok L n lv hn hwf hsm wz (hv.bw h)).mono fun e w' hp => ?_) hlv hW).mono fun e w' hp => ?_
  ·cases hp with
   | no h => rw [hs.1] at h; cases h
   | yes _ s c he ho hb => exact ⟨s, c, he, ho.up (Nat.le_refl _), hb⟩
  ·cases hp with
   | spent h => exact absurd h hl
   | yes _ s c he ho hw ht => exact .yes (by unfold sealOk; rw [hs.1, decide_eq_true hs.2]; rfl) s c he ho hw ht
 | false =>
  refine (cseal_arg g K lim used nxt gm M lv hx hl w (fun wz h => (write_ok L n lv hn hwf hsm wz (hv.bw h)).mono fun e w' hp => ?_) hlv hW).mono fun e w' hp => .arg hs hp.1 hp.2
  unfold sealOk at hs
  cases hp with
  | no h he hb => exact ⟨none, 0, 0, 1, he, .inl (by decide), by decide, hb⟩
  | yes h s c he ho hb =>
   rw [h, Bool.true_and] at hs
   have := of_decide_eq_false hs
   have h12 := (okW_all h).2.2
   exact ⟨s, _, c, 0, he, .inr (by omega), by omega, hb⟩
end Go.Proofs.YtikmhlbpefednaaGreat

namespace Go.Proofs.YtikmhlbpefednaaGreat
open Go.RowKit
def rrB : List Nat := [128, 201, 0, 1, 0, 0, 0, 7]
def rrC : Ctl := ⟨201, 7, 0, 0, 0, 0, 0, [], [], [], [], [], 0⟩
theorem rrB_eq : rrB = [128, 201, 0, 1, 0, 0, 0, 7] := rfl
theorem rrC_eq : rrC = ⟨201, numB (([0, 0, 0, 7] : List Nat).take 4), 0, 0, 0, 0, 0, (repsN (([0, 0, 0, 7] : List Nat).drop 4) 0).map repOf, [], [], [], [], 0⟩ := by
 have h1 : numB (([0, 0, 0, 7] : List Nat).take 4) = 7 := by decide
 have h2 : (repsN (([0, 0, 0, 7] : List Nat).drop 4) 0).map repOf = [] := by simp [repsN]
 rw [h1, h2]
 rfl
theorem rr_part : PartOk rrB rrC := by
 rw [rrB_eq, rrC_eq]
 exact ⟨1, 0, 201, 0, 1, -1, [0, 0, 0, 7], 132, by decide, rfl, by simp, by decide, by decide, by decide, by decide, by decide, receiver_ok 0 [0, 0, 0, 7] (by decide) (by decide), fun _ _ => by kernel_rfl, rfl, by decide⟩
theorem rr_read (wz : World) (v : Value) (h : SB wz v 8 rrB) : Calls Tryz.prog 61 #[v] wz fun e w' => ∃ so co, e = .returned (.tuple #[.slice so 1 co, .int .i64 0]) ∧ EQ EC 118 w' wz.heap.size (.slice so 1 co) 1 [rrC] ∧ BW wz w' :=
 Read_ok [(rrB, rrC)] (by intro p hp; simp at hp; subst hp; exact rr_part) (by decide) (by decide) v 8 (by decide) wz (by simpa [restB] using h)
theorem rrB_src : nm rrB 4 4 = 7 := by decide
def rrM : List (Nat × Nat × Nat) := [(7, 1, 1)]
theorem rrM_ok : MOk rrM := ⟨by simp [rrM], by simp [rrM]⟩
theorem rrM_set : setW [] 7 (wMark (getW [] 7).1 (getW [] 7).2 0) = rrM := by decide
theorem rr_E1 (K : List Nat) : copenE K 9 0 [] (csealB K rrB 0) = 0 := by
 rw [copenE_seal K rrB 0 (by decide) (by decide) (by decide), rrB_src]
 decide
theorem rr_E2 (K : List Nat) : copenE K 9 1 rrM (csealB K rrB 0) = 5 := by
 rw [copenE_seal K rrB 0 (by decide) (by decide) (by decide), rrB_src]
 decide
theorem rr_T (K : List Nat) : copenT K (csealB K rrB 0) = rrB := copenT_seal K rrB 0 (by decide) (by decide)
theorem rr_src (K : List Nat) : nm (csealB K rrB 0) 4 4 = 7 := by rw [cseal_src K rrB 0 (by decide), rrB_src]
theorem rr_num (K : List Nat) : nm (csealB K rrB 0) ((csealB K rrB 0).length - 14) 4 - 2 ^ 31 = 0 := by
 rw [csealB_len K rrB 0 (by decide), Nat.add_sub_cancel, cseal_num K rrB 0 (by decide) (by decide)]
theorem rr_open1 (g : Nat) (K : List Nat) (gm : Nat) (sb : Option Addr) (cb : Nat) (w : World) (hW : CwV w g K 9 0 0 gm []) (hv : SB w (.slice sb 22 cb) 22 (csealB K rrB 0)) (hvo : ∀ k, (Value.slice sb 22 cb).ownBlock = some k → k ≠ g ∧ k ≠ gm) :
  Calls Tryz.prog 22 #[.pointer (some ⟨g, 0, none⟩), .slice sb 22 cb] w fun e w' => ∃ s c, e = .returned (.tuple #[.slice s 1 c, .int .u32 7, .int .i64 0]) ∧ EQ EC 118 w' w.heap.size (.slice s 1 c) 1 [rrC] ∧ CwV w' g K 9 1 0 gm rrM ∧ Still [g, gm] w w' := by
 have h := copen_ok g K 9 0 0 gm [] sb 22 cb (csealB K rrB 0) [rrC] MOk.nil (by decide) (by decide) w hW hv hvo (fun _ wz v hz => by
  rw [rr_T] at hz
  exact rr_read wz v hz)
 rw [rr_E1, rr_src, rr_num] at h
 refine h.mono fun e w' hp => ?_
 cases hp with
 | no h => exact absurd rfl h
 | yes _ s c he ho hw ht =>
  rw [rrM_set] at hw
  exact ⟨s, c, he, ho, hw, ht⟩
theorem rr_open2 (g : Nat) (K : List Nat) (gm : Nat) (sb : Option Addr) (cb : Nat) (w : World) (hW : CwV w g K 9 1 0 gm rrM) (hv : SB w (.slice sb 22 cb) 22 (csealB K rrB 0)) (hvo : ∀ k, (Value.slice sb 22 cb).ownBlock = some k → k ≠ g ∧ k ≠ gm) :
  Calls Tryz.prog 22 #[.pointer (some ⟨g, 0, none⟩), .slice sb 22 cb] w fun e w' => e = .returned (.tuple #[.slice none 0 0, .int .u32 0, .int .i64 5]) ∧ BW w w' := by
 have h := copen_ok g K 9 1 0 gm rrM sb 22 cb (csealB K rrB 0) [] rrM_ok (by decide) (by decide) w hW hv hvo (fun h0 => by rw [rr_E2] at h0; cases h0)
 rw [rr_E2] at h
 refine h.mono fun e w' hp => ?_
 cases hp with
 | no _ he hb => exact ⟨he, hb⟩
 | yes h => cases h
theorem rr_parts : partsB [rrC] = rrB := by decide
theorem rr_wf : ∀ c ∈ [rrC], CtlWf c := fun c hc => by
 obtain rfl : c = rrC := by simpa using hc
 exact ⟨by decide, by decide, by decide, by decide, by decide, by decide, by decide, by decide, (fun _ h => by cases h), (fun _ h => by cases h), (fun _ h => by cases h), (fun _ h => by cases h), fun _ h => by cases h⟩
theorem rr_sm : ∀ c ∈ [rrC], CtlSm c := fun c hc => by
 obtain rfl : c = rrC := by simpa using hc
 exact ⟨by decide, by decide, by decide, by decide, by decide, fun _ h => by cases h⟩
theorem rr_ctls {w : World} {b cap : Nat} (hc : 1 ≤ cap ∧ cap ≤ 1000000) (hb : b < w.heap.size) (hx : ∀ j, j < 13 → w.cell? ⟨b, 0 + j, none⟩ = (smC 201 7 0 : Array Value)[j]?) : CtlsR w (.slice (some ⟨b, 0, none⟩) 1 cap) 1 [rrC] := by
 refine ⟨rfl, ⟨_, cap, rfl, hc.1, by unfold maxLen; omega⟩, fun sa cap' he _ => ?_⟩
 cases he
 refine ⟨b, 0, rfl, hb, fun i hi => ?_⟩
 obtain rfl : i = 0 := by simpa using hi
 refine ⟨.slice none 0 0, .slice none 0 0, .slice none 0 0, .slice none 0 0, .slice none 0 0, fun j hj => ?_, ⟨(EQ.nil ER 163 w 0).sq, (EQ.nil EM 120 w 0).sq, (EQ.nil ES 33 w 0).sq, (EQ.nil EO 165 w 0).sq, (EQ.nil EF 167 w 0).sq⟩⟩
 have h := hx j hj
 simp only [Nat.zero_mul, Nat.add_zero] at h ⊢
 rw [h]
 rcases (show j = 0 ∨ j = 1 ∨ j = 2 ∨ j = 3 ∨ j = 4 ∨ j = 5 ∨ j = 6 ∨ j = 7 ∨ j = 8 ∨ j = 9 ∨ j = 10 ∨ j = 11 ∨ j = 12 by omega) with rfl | rfl | rfl | rfl | rfl | rfl | rfl | rfl | rfl | rfl | rfl | rfl | rfl <;> rfl
theorem rr_ok : sealOk [rrC] = true := by decide
theorem rr_seal (g : Nat) (K : List Nat) (gm b cap : Nat) (hc : 1 ≤ cap ∧ cap ≤ 1000000) (w : World) (hb : b < w.heap.size) (hx : ∀ j, j < 13 → w.cell? ⟨b, 0 + j, none⟩ = (smC 201 7 0 : Array Value)[j]?) (hW : CwV w g K 9 0 0 gm []) :
  Calls Tryz.prog 21 #[.pointer (some ⟨g, 0, none⟩), .slice (some ⟨b, 0, none⟩) 1 cap] w fun e w' => ∃ s c, e = .returned (.tuple #[.slice s 22 c, .int .i64 0]) ∧ OB w' w.heap.size 5 (.slice s 22 c) 22 (csealB K rrB 0) ∧ Still [g] w w' := by
 have h := cseal_any g K 9 0 0 gm [] [rrC] 1 _ (by decide) (by decide) (by decide) (by decide) rr_wf rr_sm w (rr_ctls hc hb hx) hW
 refine h.mono fun e w' hp => ?_
 cases hp with
 | arg h => rw [rr_ok] at h; cases h
 | yes _ s c he ho hw ht =>
  rw [rr_parts] at he ho
  exact ⟨s, c, he, ho, ht⟩
end Go.Proofs.YtikmhlbpefednaaGreat

namespace Go.Proofs.YtikmhlbpefednaaGreat
open Go.RowKit
def scK : List Nat := keysN (zeros 16) (zeros 14) 3
theorem scZ : ivA .u8 (zeros 16 ++ zeros 14) = #[.int .u8 0, .int .u8 0, .int .u8 0, .int .u8 0, .int .u8 0, .int .u8 0, .int .u8 0, .int .u8 0, .int .u8 0, .int .u8 0, .int .u8 0, .int .u8 0, .int .u8 0, .int .u8 0, .int .u8 0, .int .u8 0, .int .u8 0, .int .u8 0, .int .u8 0, .int .u8 0, .int .u8 0, .int .u8 0, .int .u8 0, .int .u8 0, .int .u8 0, .int .u8 0, .int .u8 0, .int .u8 0, .int .u8 0, .int .u8 0] := rfl
set_option maxRecDepth 100000 in
set_option maxHeartbeats 8000000 in
theorem srtcp_alive (w : World) : Calls Tryz.prog 18 #[] w fun e w' => e = .returned (.bool true) ∧ BW w w' := by
 have cN := fun wz => Lib.hid (cway_new (zeros 16) (zeros 14) 9 (zeros_len 16) (zeros_byL 16) (zeros_len 14) (zeros_byL 14) wz)
 rw [scZ, show keysN (zeros 16) (zeros 14) 3 = scK from rfl] at cN
 have cS := fun wz g gm b (hb : b < wz.heap.size) hx hW => Lib.hid (rr_seal g scK gm b 1 (by omega) wz hb hx hW)
 have cO1 := fun wz g gm sb cb hW hv hvo => Lib.hid (rr_open1 g scK gm sb cb wz hW hv hvo)
 have cO2 := fun wz g gm sb cb hW hv hvo => Lib.hid (rr_open2 g scK gm sb cb wz hW hv hvo)
 have cE := fun wz v1 v2 h1 h2 => Lib.hid (csames_all [rrC] 1 (by decide) rr_sm v1 v2 wz h1 h2)
 generalize csealB scK rrB 0 = SB0 at *
 generalize scK = K at *
 go_enter Tryz.func18, Tryz.ntmps18
 go_wp2_with fail
 refine Calls.mono (cN w).out ?_
 rintro e w1 ⟨ga, ma, rfl, hga, hma, Wa, hb⟩
 have l1 := Wa.hp.lt
 have l2 := Wa.mp.lt
 dsimp only
 go_wp2_with fail
 refine Calls.mono (cN w1).out ?_
 rintro e w2 ⟨gb, mb, rfl, hgb, hmb, Wb, hb2⟩
 have hlt : Hid (ga < gb ∧ ga < mb ∧ ma < gb ∧ ma < mb ∧ gb < w2.heap.size ∧ mb < w2.heap.size) := by
  have := Wb.hp.lt
  have := Wb.mp.lt
  exact ⟨by omega, by omega, by omega, by omega, by omega, by omega⟩
 clear l1 l2
 replace Wa := Lib.hid (Wa.bw hb2)
 have B := Lib.hid (hb.trans hb2)
 have hga1 := Lib.hid hga
 have hgb1 := Lib.hid (Nat.le_trans hb.size hgb)
 have hmb1 := Lib.hid (Nat.le_trans hb.size hmb)
 clear cN hb hb2 hga hma hgb hmb
 replace Wb := Lib.hid Wb
 dsimp only
 go_upto_region 4 with (fail)
 have B3 : BW w2 (w2.alloc (.cells (smC 201 7 0) 118)) := (BW.refl _).alloc
 have P := Lib.hid (HpB.new w2 (.cells (smC 201 7 0) 118))
 have Wa3 := Lib.hid (Wa.out.bw B3)
 have Wb3 := Lib.hid (Wb.out.bw B3)
 have hz := Lib.hid B.out.size
 replace B := Lib.hid (B.out.trans B3)
 have hpl := P.out.lt
 have hx := fun j (hj : j < 13) => (hp_cell P.out (0 + j)).trans (show _ = (smC 201 7 0 : Array Value)[0 + j]? from rfl)
 simp only [Nat.zero_add] at hx
 have cS1 := cS _ ga ma w2.heap.size hpl (fun j hj => by rw [Nat.zero_add]; exact hx j hj) Wa3.out
 clear cS Wa Wb hx hpl Wa3
 replace B3 := Lib.hid B3
 go_wp2_with fail
 refine Calls.mono cS1.out ?_
 rintro e w4 ⟨s4, c4, rfl, O4, T4⟩
 have P4 := Lib.hid (P.out.st T4 (by have := hlt.out; simp; omega))
 have Wb4 := Lib.hid (Wb3.out.still T4 (by have := hlt.out; simp; omega) (by have := hlt.out; simp; omega))
 replace B := Lib.hid (B.out.stP T4 (fun k hk => by obtain rfl : k = ga := (by simpa using hk); exact hga1.out))
 have hgp : Hid (w2.heap.size < w4.heap.size) := P4.out.lt
 have hge : Hid (∀ k, (Value.slice s4 22 c4).ownBlock = some k → w2.heap.size < k) := fun k hk => by
  have := O4.ge' k hk
  have := P.out.lt
  omega
 replace O4 := Lib.hid O4
 clear T4 cS1 P Wb3 B3
 generalize hgq : w2.heap.size = gp at *
 dsimp only
 go_upto_region 6 with (fail)
 go_wp2_with fail
 refine Calls.mono (cO1 w4 gb mb s4 c4 Wb4.out O4.out.sb (fun k hk => by have := hge.out k hk; have := hlt.out; omega)).out ?_
 rintro e w5 ⟨so, co, rfl, Q, Wb5, T5⟩
 have P5 := Lib.hid (P4.out.st T5 (by have := hlt.out; simp; omega))
 have O5 := Lib.hid (O4.out.still T5 (fun k hk hm => by have := hge.out k hk; have := hlt.out; simp at hm; omega))
 replace B := Lib.hid (B.out.stP T5 (fun k hk => by have := hgb1.out; have := hmb1.out; simp at hk; rcases hk with rfl | rfl <;> omega))
 have hy := Lib.hid (ctls_of_EQ Q)
 replace Wb5 := Lib.hid Wb5
 clear T5 cO1 Wb4 P4 O4 Q hgp
 dsimp only
 go_upto_region 7 with (fail)
 go_wp2_with fail
 refine Calls.mono (cO2 w5 gb mb s4 c4 Wb5.out O5.out.sb (fun k hk => by have := hge.out k hk; have := hlt.out; omega)).out ?_
 rintro e w6 ⟨rfl, hb6⟩
 have P6 := Lib.hid (P5.out.bw hb6)
 have hy6 := Lib.hid (hy.out.bw hb6)
 replace B := Lib.hid (B.out.trans hb6)
 clear hb6 P5 hy cO2 O5 Wb5
 dsimp only
 go_upto_region 8 with (fail)
 have hx6 := fun j (hj : j < 13) => (hp_cell P6.out (0 + j)).trans (show _ = (smC 201 7 0 : Array Value)[0 + j]? from rfl)
 have cE1 := cE w6 _ _ (rr_ctls (cap := 1) (by decide) P6.out.lt (fun j hj => by have := hx6 j hj; rw [Nat.zero_add] at this ⊢; exact this)) hy6.out
 clear hx6 hy6 cE P6
 go_wp2_with fail
 refine Calls.mono cE1.out ?_
 rintro e w7 ⟨rfl, hb7⟩
 replace B := Lib.hid (B.out.trans hb7)
 clear hb7 cE1
 dsimp only
 go_wp2_with fail
 go_ret
 exact ⟨rfl, B.out⟩
end Go.Proofs.YtikmhlbpefednaaGreat

namespace Go.Proofs.YtikmhlbpefednaaGreat
open Go.RowKit
theorem rcway_fold (K : List Nat) (hK : K.length = 50) : Array.foldl (fun (cs : Array Value) (x : Value × Nat) => cs.setIfInBounds x.snd x.fst) #[Value.int .u8 0, .int .u8 0, .int .u8 0, .int .u8 0, .int .u8 0, .int .u8 0, .int .u8 0, .int .u8 0, .int .u8 0, .int .u8 0, .int .u8 0, .int .u8 0, .int .u8 0, .int .u8 0, .int .u8 0, .int .u8 0, .int .u8 0, .int .u8 0, .int .u8 0, .int .u8 0, .int .u8 0, .int .u8 0, .int .u8 0, .int .u8 0, .int .u8 0, .int .u8 0, .int .u8 0, .int .u8 0, .int .u8 0, .int .u8 0, .int .u8 0, .int .u8 0, .int .u8 0, .int .u8 0, .int .u8 0, .int .u8 0, .int .u8 0, .int .u8 0, .int .u8 0, .int .u8 0, .int .u8 0, .int .u8 0, .int .u8 0, .int .u8 0, .int .u8 0, .int .u8 0, .int .u8 0, .int .u8 0, .int .u8 0, .int .u8 0, .int .i64 0, .int .i64 0, .int .i64 0, .slice none 0 0, .slice none 0 0] (ivA .u8 K).zipIdx 0 50 = ivA .u8 K ++ (#[.int .i64 0, .int .i64 0, .int .i64 0, .slice none 0 0, .slice none 0 0] : Array Value) := by
 have h := foldl_ivA K #[.int .i64 0, .int .i64 0, .int .i64 0, .slice none 0 0, .slice none 0 0] hK
 have hs : (ivA .u8 K).zipIdx.size = 50 := by rw [Array.size_zipIdx, ivA_size, hK]
 rw [hs] at h
 simp only [Nat.zero_add] at h
 exact h
theorem rcway_cells (K : List Nat) (hK : K.length = 50) (x : Value) : (ivA .u8 K ++ (#[.int .i64 0, .int .i64 0, .int .i64 0, .slice none 0 0, .slice none 0 0] : Array Value)).setIfInBounds 50 x = ivA .u8 K ++ (#[x, .int .i64 0, .int .i64 0, .slice none 0 0, .slice none 0 0] : Array Value) := by
 apply Array.ext'
 simp only [Array.toList_setIfInBounds, Array.toList_append]
 rw [List.set_append_right _ _ (by rw [Array.length_toList, ivA_size, hK]; omega), Array.length_toList, ivA_size, hK]
 rfl
set_option maxRecDepth 100000 in
set_option maxHeartbeats 8000000 in
theorem rcnew_ok (key salt : List Nat) (lim : Int) (hk : key.length = 16) (hkb : ByL key) (hs : salt.length = 14) (hsb : ByL salt) (w : World) :
  Calls Tryz.prog 24 #[.agg (ivA .u8 (key ++ salt)), .int .i64 lim] w fun e w' => ∃ g, e = .returned (.pointer (some ⟨g, 0, none⟩)) ∧ w'.rangeAt g 0 (bvs (keysN key salt 3)) ∧ BW w w' := by
 have ck := fun wz => Lib.hid (show Calls Tryz.prog _ #[.agg (ivA .u8 (key ++ salt)), .int .u8 3] wz _ from rkeys_ok key salt 3 (by decide) hk hkb hs hsb wz)
 have hl := Lib.hid (keysN_len key salt 3)
 have hKl : Hid ((key ++ salt).length = 30) := by simp [Hid, hk, hs]
 generalize keysN key salt 3 = R at *
 generalize key ++ salt = K at *
 replace hk := Lib.hid hk
 replace hkb := Lib.hid hkb
 replace hs := Lib.hid hs
 replace hsb := Lib.hid hsb
 have B := Lib.hid (BW.refl w)
 go_enter Tryz.func24, Tryz.ntmps24
 go_upto_region 1 with (fail)
 have M0 := Lib.hid ((AvB.new w 25 K).bw (show BW (w.alloc (.cells (ivA .u8 K) 25)) (w.alloc (.cells (ivA .u8 K) 25)) from (by repeat (first | exact BW.refl _ | apply BW.alloc | apply BW.drewN | apply BW.drew))))
 generalize hnm : (w.alloc (.cells (ivA .u8 K) 25)) = w1 at *
 have hb : BW w w1 := (by subst hnm; exact (by repeat (first | exact BW.refl _ | apply BW.alloc | apply BW.drewN | apply BW.drew)))
 replace B := Lib.hid (B.out.trans hb)
 clear hb
 clear hnm
 try simp only [World.size_alloc]
 go_wp2_with (refine ldA ar30 rfl rfl (by rfl) M0.out hKl.out ?_)
 refine Calls.mono (ck w1).out ?_
 rintro e w2 ⟨rfl, hb⟩
 have hb : BW w1 w2 := hb
 replace B := Lib.hid (B.out.trans hb)
 replace M0 := Lib.hid (M0.out.bw hb)
 clear hb
 clear ck
 dsimp only
 have hsz : (ivA .u8 R).size = 50 := by rw [ivA_size, hl.out]
 obtain ⟨F, hFe⟩ : ∃ F, ivA .u8 R ++ (#[.int .i64 0, .int .i64 0, .int .i64 0, .slice none 0 0, .slice none 0 0] : Array Value) = F := ⟨_, rfl⟩
 have hfo := (rcway_fold R hl.out).trans hFe
 have hFs : F.size = 55 := by rw [← hFe, Array.size_append, hsz]; rfl
 have hX : Hid (F.setIfInBounds 50 (.int .i64 lim) = ivA .u8 R ++ (#[.int .i64 lim, .int .i64 0, .int .i64 0, .slice none 0 0, .slice none 0 0] : Array Value)) := by
  show _ = _
  rw [← hFe, rcway_cells R hl.out]
 replace hFe := Lib.hid hFe
 obtain ⟨X, hXe⟩ : ∃ X, F.setIfInBounds 50 (.int .i64 lim) = X := ⟨_, rfl⟩
 rw [hXe] at hX
 have BN : BW w2 (w2.alloc (.cells X 69)) := (BW.refl _).alloc
 have H4 := Lib.hid (HpB.new w2 (.cells X 69))
 have B4 := Lib.hid (B.out.trans BN)
 replace BN := Lib.hid BN
 go_wp2_with fail
 go_ret
 refine ⟨w2.heap.size, rfl, fun j v hj => ?_, B4.out⟩
 obtain ⟨hj1, hj2⟩ := bvs_iv R j v hj
 have h1 := hp_cell H4.out j
 have h2 : X[j]? = some v := by rw [hX.out, Array.getElem?_append_left (by rw [ivA_size]; exact hj1), hj2]
 rw [Nat.zero_add]
 exact h1.trans h2
end Go.Proofs.YtikmhlbpefednaaGreat

namespace Go.Proofs.YtikmhlbpefednaaGreat
open Go.RowKit
theorem cfresh_first (src : Nat) : cfreshE 9 0 [] src 0 = 0 := rfl
theorem cset_first (src : Nat) : setW [] src (wMark (getW [] src).1 (getW [] src).2 0) = [(src, 1, 1)] := by
 have h1 : getW [] src = (0, 0) := rfl
 rw [h1]
 show setW [] src (wMark 0 0 0) = _
 rw [wMark_new]
 simp [setW, hasW]
theorem cfresh_again (src : Nat) : cfreshE 9 1 [(src, 1, 1)] src 0 = 5 := by
 have h1 : hasW [(src, 1, 1)] src = true := by simp [hasW]
 have h2 : getW [(src, 1, 1)] src = (1, 1) := by simp [getW]
 unfold cfreshE
 rw [h1, h2, if_neg (by omega), if_neg (by simp), if_pos (by decide)]
theorem cmok_one (src : Nat) (h : src < 4294967296) : MOk [(src, 1, 1)] := ⟨by simp, by simp; omega⟩
theorem copen_other (K : List Nat) (lim : Int) (used : Nat) (M : List (Nat × Nat × Nat)) (b : List Nat) (h : b.drop (b.length - 10) ≠ tagC K (b.take (b.length - 10))) : copenE K lim used M b ≠ 0 := by
 unfold copenE
 split
 ·decide
 ·split
  ·decide
  ·split
   ·decide
   ·split
    ·assumption
    ·first | decide | (rw [if_pos h]; decide)
theorem cmaster2 {w : World} {cs : Array Value} (h : Rd w (.scope (.seq (.block 16 (.label 4)) (.seq (.block 14 (.label 4)) .skip))) cs.toList) : ∃ key salt : List Nat, cs = ivA .u8 (key ++ salt) ∧ key.length = 16 ∧ ByL key ∧ salt.length = 14 ∧ ByL salt := by
 obtain ⟨c1, c2, e, h1, c3, c4, e2, h3, h4⟩ := h
 have h4 : c4 = [] := h4
 subst h4 e2
 obtain ⟨k1, e1, l1, b1⟩ := bytes_of_cells w 16 c1 h1.1 h1.2
 obtain ⟨k2, e2, l2, b2⟩ := bytes_of_cells w 14 c3 h3.1 h3.2
 refine ⟨k1, k2, ?_, l1, byl_of b1, l2, byl_of b2⟩
 apply Array.ext'
 rw [e, e1, e2]
 simp [ivA]
set_option maxRecDepth 100000 in
set_option maxHeartbeats 8000000 in
theorem cback_walk (key salt : List Nat) (hk : key.length = 16) (hkb : ByL key) (hs : salt.length = 14) (hsb : ByL salt) (sa : Option Addr) (n cap : Nat) (L : List Ctl) (at_ fl : Nat) (hat : at_ < 65536) (hfl : fl < 256) (w : World) (hv : CtlsR w (.slice sa n cap) n L) (hwf : ∀ c ∈ L, CtlWf c) :
  Calls Tryz.prog 4 #[.agg (ivA .u8 (key ++ salt)), .slice sa n cap, .int .u16 (at_ : Nat), .int .u8 (fl : Nat)] w fun e w' => e = .returned (.bool true) ∧ BW w w' := by
 have cN := fun wz => Lib.hid (cway_new key salt 9 hk hkb hs hsb wz)
 have cR := fun wz => Lib.hid (rcnew_ok key salt 1 hk hkb hs hsb wz)
 have hKK := Lib.hid (keysN_len key salt 3)
 have hKb := Lib.hid (keysN_byl key salt 3 hkb)
 have hKl : Hid ((key ++ salt).length = 30) := by simp [Hid, hk, hs]
 generalize keysN key salt 3 = KK at *
 generalize key ++ salt = K at *
 clear hk hkb hs hsb
 have cA := fun wz => Lib.hid (srtcp_alive wz)
 have cG := fun wz (h : BW w wz) => Lib.hid (great_ok L n (.slice sa n cap) wz (hv.bw h))
 obtain ⟨_, _, he, hc1, hc2⟩ := hv.sl
 cases he
 unfold maxLen at hc2
 have M0 : AvB (w.alloc (.cells (ivA .u8 K) 25)) w.heap.size 25 K := AvB.new _ _ _
 have B0 : BW w (w.alloc (.cells (ivA .u8 K) 25)) := (BW.refl w).alloc
 replace M0 := Lib.hid M0
 have B := Lib.hid B0
 have hV := Lib.hid hv
 clear hv
 replace B0 := Lib.hid B0
 replace hwf := Lib.hid hwf
 go_enter Tryz.func4, Tryz.ntmps4
 go_upto_region 1 with (fail)
 clear B0
 generalize (w.alloc _) = w1 at *
 generalize hgm : w.heap.size = g0 at *
 replace hgm := Lib.hid hgm
 go_wp2_with fail
 refine Calls.mono (cA w1).out ?_
 rintro e w2 ⟨rfl, hb⟩
 replace M0 := Lib.hid (M0.out.bw hb)
 replace B := Lib.hid (B.out.trans hb)
 clear hb cA
 dsimp only
 go_upto_region 3 with (fail)
 have cG2 := cG w2 B.out
 clear cG
 go_wp2_with fail
 refine Calls.mono cG2.out ?_
 rintro e w' ⟨⟨bg, rfl, hg⟩, rfl⟩
 dsimp only
 clear cG2
 cases bg with
 | true =>
  go_wp2_with fail
  go_ret
  exact ⟨rfl, B.out⟩
 | false =>
  obtain ⟨hn60, hsm⟩ := hg rfl
  clear hg
  replace hsm := Lib.hid hsm
  go_upto_region 5 with (fail)
  refine wp_region_gg [] [] [] (by kernel_rfl) ?_
  refine hoist [] [] (a1 := ?_) 0 rfl (by kernel_rfl) (.inl ⟨rfl, rfl⟩) rfl rfl rfl (fun x K hK => ?_) ?_
  rotate_left
  ·refine qlA ar30 rfl (by rfl) hKl.out (fun w' hw => by subst hw; exact M0.out.bw x.bw) (by simp only [Act.put, List.setIfInBounds_toArray, List.set_cons_succ, List.set_cons_zero]; rfl) ?_
   exact hK
  refine hoist [] [] (a1 := ?_) 2 rfl (by kernel_rfl) (.inl ⟨rfl, rfl⟩) rfl rfl rfl (fun x K hK => ?_) ?_
  rotate_left
  ·refine qlA ar30 rfl (by rfl) hKl.out (fun w' hw => by subst hw; exact M0.out.bw x.bw) (by simp only [Act.put, List.setIfInBounds_toArray, List.set_cons_succ, List.set_cons_zero]; rfl) ?_
   exact hK
  refine hoist [] [] (a1 := ?_) 4 rfl (by kernel_rfl) (.inl ⟨rfl, rfl⟩) rfl rfl rfl (fun x K hK => ?_) ?_
  rotate_left
  ·refine qlA ar30 rfl (by rfl) hKl.out (fun w' hw => by subst hw; exact M0.out.bw x.bw) (by simp only [Act.put, List.setIfInBounds_toArray, List.set_cons_succ, List.set_cons_zero]; rfl) ?_
   exact hK
  refine effect 1 rfl (by kernel_rfl) (by kernel_rfl) rfl (fun x1 K hK => ?_)
  go_simp
  refine Calls.mono (cN x1.now).out ?_
  rintro e w4 ⟨ga, ma, rfl, hga, hma, Wa, hb⟩
  refine hK _ _ (hb.still []) ?_
  clear hK K
  have Ba := Lib.hid (x1.bw.trans hb)
  have hga1 := Lib.hid (Nat.le_trans x1.bw.size hga)
  have hma1 := Lib.hid (Nat.le_trans x1.bw.size hma)
  replace Wa := Lib.hid Wa
  clear hb hga hma
  try simp only [Act.put, List.setIfInBounds_toArray, List.set_cons_succ, List.set_cons_zero]
  refine effect 3 rfl (by kernel_rfl) (by kernel_rfl) rfl (fun x3 K hK => ?_)
  go_simp
  refine Calls.mono (cN x3.now).out ?_
  rintro e w5 ⟨gb, mb, rfl, hgb, hmb, Wb, hb⟩
  refine hK _ _ (hb.still []) ?_
  clear hK K
  have hab : Hid (ga < gb ∧ ga < mb ∧ ma < gb ∧ ma < mb) := by
   have := (Wa.out.bw x3.bw).hp.lt
   have := (Wa.out.bw x3.bw).mp.lt
   show _ ∧ _
   omega
  replace Wa := Lib.hid (Wa.out.bw (x3.bw.trans hb))
  replace Ba := Lib.hid (Ba.out.trans (x3.bw.trans hb))
  replace Wb := Lib.hid Wb
  clear hb hgb hmb
  try simp only [Act.put, List.setIfInBounds_toArray, List.set_cons_succ, List.set_cons_zero]
  refine effect 5 rfl (by kernel_rfl) (by kernel_rfl) rfl (fun x5 K hK => ?_)
  go_simp
  refine Calls.mono (cN x5.now).out ?_
  rintro e w6 ⟨gc, mc, rfl, hgc, hmc, Wc, hb⟩
  refine hK _ _ (hb.still []) ?_
  clear hK K
  have hbc : Hid (gb < gc ∧ gb < mc ∧ mb < gc ∧ mb < mc) := by
   have := (Wb.out.bw x5.bw).hp.lt
   have := (Wb.out.bw x5.bw).mp.lt
   show _ ∧ _
   omega
  replace Wa := Lib.hid (Wa.out.bw (x5.bw.trans hb))
  replace Wb := Lib.hid (Wb.out.bw (x5.bw.trans hb))
  replace Ba := Lib.hid (Ba.out.trans (x5.bw.trans hb))
  replace Wc := Lib.hid Wc
  clear hb hgc hmc cN
  try simp only [Act.put, List.setIfInBounds_toArray, List.set_cons_succ, List.set_cons_zero]
  refine hoist [] [] (a1 := ?_) 6 rfl (by kernel_rfl) (.inl ⟨rfl, rfl⟩) rfl rfl rfl (fun x K hK => ?_) ?_
  rotate_left
  ·go_big_quiet_op
   exact hK
  refine hoist [] [] (a1 := ?_) 7 rfl (by kernel_rfl) (.inl ⟨rfl, rfl⟩) rfl rfl rfl (fun x K hK => ?_) ?_
  rotate_left
  ·go_big_quiet_op
   exact hK
  refine hoist [] [] (a1 := ?_) 8 rfl (by kernel_rfl) (.inl ⟨rfl, rfl⟩) rfl rfl rfl (fun x K hK => ?_) ?_
  rotate_left
  ·go_big_quiet_op
   exact hK
  refine done (by kernel_rfl) (fun xr => ?_)
  have hgl : Hid (g0 < ga ∧ g0 < ma) := by
   have := M0.out.lt
   have := hga1.out
   have := hma1.out
   show _ ∧ _
   omega
  have hwg : Hid (g0 = w.heap.size) := hgm.out.symm
  replace Wa := Lib.hid (Wa.out.bw xr.bw)
  replace Wb := Lib.hid (Wb.out.bw xr.bw)
  replace Wc := Lib.hid (Wc.out.bw xr.bw)
  replace Ba := Lib.hid (Ba.out.trans xr.bw)
  replace M0 := Lib.hid (M0.out.bw Ba.out)
  replace B := Lib.hid (B.out.trans Ba.out)
  have hcl : Hid (gc < xr.now.heap.size ∧ mc < xr.now.heap.size) := ⟨Wc.out.hp.lt, Wc.out.mp.lt⟩
  clear Ba hga1 hma1
  generalize xr.now = w7 at *
  have cS := Lib.hid (cseal_any ga KK 9 0 0 ma [] L n (.slice sa n cap) (by omega) (by decide) (by decide) (by decide) hwf.out hsm.out w7 (hV.out.bw B.out) Wa.out)
  go_upto_region 6 with (fail)
  go_wp2_with fail
  refine Calls.mono cS.out ?_
  rintro e w8 hp
  clear cS
  rcases hp with ⟨-, rfl, hb⟩ | ⟨hok, s, cX, rfl, O, Wa8, T8⟩
  ·replace B := Lib.hid (B.out.trans hb)
   clear hb
   dsimp only
   go_wp2_with fail
   go_ret
   exact ⟨rfl, B.out⟩
  unfold sealOk at hok
  simp only [Bool.and_eq_true, decide_eq_true_eq] at hok
  obtain ⟨hok, h8, h1186⟩ := hok
  have hrd := Lib.hid (read_back L hok hwf.out hsm.out)
  have hbyt := O.2.1
  have hsrc := nm_lt _ hbyt 4 4
  have hE1 := copenE_seal KK (partsB L) 0 h8 h1186 (by decide) 9 0 []
  have hT := copenT_seal KK (partsB L) 0 h8 (by decide)
  have hsr := cseal_src KK (partsB L) 0 h8
  rw [hsr] at hsrc
  have hnum : nm (csealB KK (partsB L) 0) ((csealB KK (partsB L) 0).length - 14) 4 - 2 ^ 31 = 0 := by
   rw [csealB_len KK _ 0 h8, Nat.add_sub_cancel, cseal_num KK _ 0 h8 (by decide)]
  rw [cfresh_first] at hE1
  have hE2 := copenE_seal KK (partsB L) 0 h8 h1186 (by decide) 9 1 [(nm (partsB L) 4 4, 1, 1)]
  rw [cfresh_again] at hE2
  have hM1 := Lib.hid (cmok_one (nm (partsB L) 4 4) (by omega))
  have hLL := Lib.hid h1186
  have h22 := Lib.hid h8
  generalize hplen : (partsB L).length = pl at *
  generalize hX0 : csealB KK (partsB L) 0 = X at *
  generalize nm (partsB L) 4 4 = src at *
  generalize hq14 : pl + 14 = LX at *
  have hLX : Hid (22 ≤ LX ∧ LX ≤ 1200 ∧ LX - 14 = pl) := by show _ ∧ _; omega
  clear hok h8 h1186 hbyt hsrc hX0
  replace B := Lib.hid (B.out.stP T8 (fun k hk => by obtain rfl : k = ga := (by simpa using hk); have := hgl.out; have := hwg.out; omega))
  replace M0 := Lib.hid (M0.out.still T8 (by have := hgl.out; simp; omega))
  replace Wb := Lib.hid (Wb.out.still T8 (by have := hab.out; simp; omega) (by have := hab.out; simp; omega))
  replace Wc := Lib.hid (Wc.out.still T8 (by have := hab.out; have := hbc.out; simp; omega) (by have := hab.out; have := hbc.out; simp; omega))
  have hown : Hid (∀ k, (Value.slice s LX cX).ownBlock = some k → gc < k ∧ mc < k) := fun k hk => by have := O.ge' k hk; have := hcl.out; omega
  replace O := Lib.hid O
  clear Wa Wa8 T8
  replace hplen := Lib.hid hplen
  replace hq14 := Lib.hid hq14
  replace hE1 := Lib.hid hE1
  replace hE2 := Lib.hid hE2
  replace hT := Lib.hid hT
  replace hsr := Lib.hid hsr
  replace hnum := Lib.hid hnum
  have cO1 := copen_ok gb KK 9 0 0 mb [] s LX cX X L MOk.nil (by have := hLX.out; omega) (by decide) w8 Wb.out O.out.sb (fun k hk => by have := hown.out k hk; have := hbc.out; omega) (fun _ wz v hz => by
   rw [hT.out, hLX.out.2.2] at hz
   exact hrd.out v wz hz)
  rw [hE1.out, hsr.out, hnum.out] at cO1
  replace cO1 := Lib.hid cO1
  dsimp only
  go_upto_region 9 with (fail)
  go_wp2_with fail
  refine Calls.mono cO1.out ?_
  rintro e w9 hp
  clear cO1
  rcases hp with ⟨h, -, -⟩ | ⟨-, s9, c9, rfl, Q9, Wb9, T9⟩
  ·exact absurd rfl h
  rw [cset_first] at Wb9
  replace B := Lib.hid (B.out.stP T9 (fun k hk => by have := hgl.out; have := hab.out; have := hwg.out; simp at hk; rcases hk with rfl | rfl <;> omega))
  replace M0 := Lib.hid (M0.out.still T9 (by have := hgl.out; have := hab.out; simp; omega))
  replace Wc := Lib.hid (Wc.out.still T9 (by have := hbc.out; simp; omega) (by have := hbc.out; simp; omega))
  replace O := Lib.hid (O.out.still T9 (fun k hk hm => by have := hown.out k hk; have := hbc.out; simp at hm; omega))
  clear T9 Wb
  have C9 := Lib.hid (ctls_of_EQ Q9)
  replace Wb9 := Lib.hid Wb9
  have hLn : L.length = n := hV.out.len
  rw [hLn] at C9 ⊢
  have cO2 := copen_ok gb KK 9 1 0 mb [(src, 1, 1)] s LX cX X [] hM1.out (by have := hLX.out; omega) (by decide) w9 Wb9.out O.out.sb (fun k hk => by have := hown.out k hk; have := hbc.out; omega) (fun h0 => by rw [hE2.out] at h0; cases h0)
  rw [hE2.out] at cO2
  replace cO2 := Lib.hid cO2
  clear Q9 hLn
  dsimp only
  go_upto_region 10 with (fail)
  go_wp2_with fail
  refine Calls.mono cO2.out ?_
  rintro e w10 hp
  clear cO2
  rcases hp with ⟨-, rfl, hb⟩ | ⟨h, -⟩
  rotate_left
  ·cases h
  replace B := Lib.hid (B.out.trans hb)
  replace M0 := Lib.hid (M0.out.bw hb)
  replace Wc := Lib.hid (Wc.out.bw hb)
  replace O := Lib.hid (O.out.bw hb)
  replace C9 := Lib.hid (C9.out.bw hb)
  clear hb Wb9 hM1 hE1 hE2 hT hrd
  dsimp only
  have cE := Lib.hid (csames_all L n (by omega) hsm.out _ _ w10 C9.out (hV.out.bw B.out))
  clear C9
  go_upto_region 11 with (fail)
  go_wp2_with fail
  refine Calls.mono cE.out ?_
  rintro e w11 ⟨rfl, hb⟩
  replace B := Lib.hid (B.out.trans hb)
  replace M0 := Lib.hid (M0.out.bw hb)
  replace Wc := Lib.hid (Wc.out.bw hb)
  replace O := Lib.hid (O.out.bw hb)
  clear hb cE
  dsimp only
  by_cases hf0 : fl = 0
  ·subst hf0
   go_wp2_with fail
   go_ret
   exact ⟨rfl, B.out⟩
  have d1 : ((fl : Int) == 0) = false := by simp; omega
  clear hf0
  go_upto_region 15 with (fail)
  clear d1
  have hL22 := hLX.out
  obtain ⟨q, o, cap', he, hgb, hgl', kc1, kc2, hcell, hfz⟩ := O.out.form (by omega)
  cases he
  unfold maxLen at kc2
  have hqo := hown.out q rfl
  have hjn := Nat.mod_lt at_ (show LX > 0 by omega)
  obtain ⟨j, ej, hj⟩ : ∃ j : Nat, (at_ : Int) % (LX : Int) = (j : Int) ∧ j < LX := ⟨at_ % LX, by simp, hjn⟩
  have hcj := hcell j hj
  have hy := O.out.2.1.get j
  have hXL : X.length = LX := O.out.1
  generalize X.getD j 0 = y at *
  have e1 : bits .xor .u8 (y : Int) (fl : Int) = ((y ^^^ fl : Nat) : Int) := u8_xor_nat y fl hy hfl
  have hy1 : y ^^^ fl < 256 := Nat.xor_lt_two_pow (n := 8) hy hfl
  generalize y ^^^ fl = y1 at *
  have l1 : ∀ x : LaterS [] w11, x.now.cell? ⟨q, o + j, none⟩ = some (.int .u8 (y : Nat)) := fun x => x.cell hcj (by simp)
  have l2 : ∀ x : LaterS [] w11, x.now.frozen? ⟨q, o + j, none⟩ = false := fun x => by
   obtain ⟨g', o', cap', he, _, _, _, _, _, hf⟩ := (O.out.bw x.bw).form (by omega)
   cases he
   exact hf _
  have j1 : (0 : Int) ≤ (j : Int) := by omega
  have j2 : (j : Int) < (LX : Int) := by omega
  have n0 : (0 : Int) < (LX : Int) := by omega
  clear hcell hfz hcj hjn
  try simp only [Act.put, List.setIfInBounds_toArray, List.set_cons_succ, List.set_cons_zero]
  refine wp_region_gg [] [] [16] (by kernel_rfl) ?_
  refine hoist [] [] (a1 := ?_) 0 rfl (by kernel_rfl) (.inl ⟨rfl, rfl⟩) rfl rfl rfl (fun x K hK => ?_) ?_
  rotate_left
  ·go_big_quiet_op
   exact hK
  refine hoist [] [] (a1 := ?_) 1 rfl (by kernel_rfl) (.inl ⟨rfl, rfl⟩) rfl rfl rfl (fun x K hK => ?_) ?_
  rotate_left
  ·go_big_quiet_op
   exact hK
  refine hoist [] [] (a1 := ?_) 2 rfl (by kernel_rfl) (.inl ⟨rfl, rfl⟩) rfl rfl rfl (fun x K hK => ?_) ?_
  rotate_left
  ·go_big_quiet_op
   exact hK
  refine hoist [] [] (a1 := ?_) 3 rfl (by kernel_rfl) (.inl ⟨rfl, rfl⟩) rfl rfl rfl (fun x K hK => ?_) ?_
  rotate_left
  ·go_big_quiet_op
   exact hK
  refine hoist [] [] (a1 := ?_) 4 rfl (by kernel_rfl) (.inl ⟨rfl, rfl⟩) rfl rfl rfl (fun x K hK => ?_) ?_
  rotate_left
  ·go_big_quiet_op
   exact hK
  refine hoist [] [] (a1 := ?_) 5 rfl (by kernel_rfl) (.inl ⟨rfl, rfl⟩) rfl rfl rfl (fun x K hK => ?_) ?_
  rotate_left
  ·go_big_quiet_op
   exact hK
  refine hoist [] [] (a1 := ?_) 6 rfl (by kernel_rfl) (.inl ⟨rfl, rfl⟩) rfl rfl rfl (fun x K hK => ?_) ?_
  rotate_left
  ·go_big_quiet_op
   exact hK
  refine hoist [] [] (a1 := ?_) 7 rfl (by kernel_rfl) (.inl ⟨rfl, rfl⟩) rfl rfl rfl (fun x K hK => ?_) ?_
  rotate_left
  ·go_big_quiet_op
   exact hK
  refine hoist [] [] (a1 := ?_) 8 rfl (by kernel_rfl) (.inl ⟨rfl, rfl⟩) rfl rfl rfl (fun x K hK => ?_) ?_
  rotate_left
  ·go_big_quiet_op
   exact hK
  refine hoist [] [] (a1 := ?_) 9 rfl (by kernel_rfl) (.inl ⟨rfl, rfl⟩) rfl rfl rfl (fun x K hK => ?_) ?_
  rotate_left
  ·go_big_quiet_op
   exact hK
  refine hoist [] [] (a1 := ?_) 10 rfl (by kernel_rfl) (.inl ⟨rfl, rfl⟩) rfl rfl rfl (fun x K hK => ?_) ?_
  rotate_left
  ·go_big_quiet_op
   exact hK
  refine hoist [] [] (a1 := ?_) 11 rfl (by kernel_rfl) (.inl ⟨rfl, rfl⟩) rfl rfl rfl (fun x K hK => ?_) ?_
  rotate_left
  ·go_big_quiet_op
   exact hK
  refine hoist [] [] (a1 := ?_) 12 rfl (by kernel_rfl) (.inl ⟨rfl, rfl⟩) rfl rfl rfl (fun x K hK => ?_) ?_
  rotate_left
  ·go_big_quiet_op
   exact hK
  refine hoist [] [] (a1 := ?_) 13 rfl (by kernel_rfl) (.inl ⟨rfl, rfl⟩) rfl rfl rfl (fun x K hK => ?_) ?_
  rotate_left
  ·go_big_quiet_op
   exact hK
  refine hoist [] [] (a1 := ?_) 14 rfl (by kernel_rfl) (.inl ⟨rfl, rfl⟩) rfl rfl rfl (fun x K hK => ?_) ?_
  rotate_left
  ·go_big_quiet_op
   exact hK
  refine hoist [] [] (a1 := ?_) 15 rfl (by kernel_rfl) (.inl ⟨rfl, rfl⟩) rfl rfl rfl (fun x K hK => ?_) ?_
  rotate_left
  ·go_big_quiet_op
   exact hK
  refine tail 16 rfl (by kernel_rfl) rfl (fun xr => ?_)
  simp only [List.drop_succ_cons, List.drop_zero]
  have O5 := Lib.hid ((O.out.bw xr.bw).set j hj y1 hy1)
  have T5 := still_sc xr.now q (o + j) (.int .u8 (y1 : Nat))
  have M5 := Lib.hid ((M0.out.bw xr.bw).still T5 (by have := hgl.out; have := hab.out; have := hbc.out; simp; omega))
  have W5 := Lib.hid ((Wc.out.bw xr.bw).still T5 (by simp; omega) (by simp; omega))
  have B5 := Lib.hid ((B.out.trans xr.bw).stP T5 (fun k hk => by obtain rfl : k = q := (by simpa using hk); have := hgl.out; have := hab.out; have := hbc.out; have := hwg.out; omega))
  go_upto_region 16 with (fail)
  clear T5 l1 l2 O M0 Wc B
  generalize xr.now.setCell ⟨q, o + j, none⟩ (.int .u8 (y1 : Nat)) = w16 at *
  generalize hX' : X.set j y1 = X' at *
  have hXl : X'.length = LX := by rw [← hX', List.length_set]; exact hXL
  clear hX' ej e1 hj j1 j2 hXL hsr hnum
  go_upto_region 17 with (fail)
  have V1 := Lib.hid (O5.out.sb.takeW (LX - 10) (by omega))
  have V2 := Lib.hid (O5.out.sb.dropW (LX - 10) (by omega))
  have hoth := Lib.hid (fun h => copen_other KK 9 0 [] X' h)
  rw [hXl] at hoth
  generalize X'.take (LX - 10) = XA at *
  generalize X'.drop (LX - 10) = XB at *
  have hTb : ByL (tagC KK XA) := by
   unfold tagC
   exact (hmac_byt _ _).take _
  have hE := bstr_eqb hTb V2.out.2.1
  have cT := fun gk wz hkv hx => Lib.hid (show Calls Tryz.prog 25 #[.slice (some ⟨gk, 16, none⟩) 20 20, .int .i64 10, .slice (some ⟨q, o, none⟩) (LX - 10) cX] wz (fun e w' => ∃ v, e = .returned v ∧ OB w' wz.heap.size 5 v 10 (tagC KK XA) ∧ Below wz.heap.size wz w') from rtag_ok (some ⟨gk, 16, none⟩) 20 20 (some ⟨q, o, none⟩) (LX - 10) cX 10 (mid KK 16 20) XA (by decide) (by decide) (by decide) (by omega) wz hkv hx)
  generalize hTG : tagC KK XA = TG at *
  generalize hbq : decide (TG = XB) = bq at *
  generalize hS2 : bstr XB = S2 at *
  generalize hS1 : bstr TG = S1 at *
  have hl10 : (LX : Int) - 10 = ((LX - 10 : Nat) : Int) := by omega
  have hz16 : Hid (gc < w16.heap.size ∧ mc < w16.heap.size) := ⟨W5.out.hp.lt, W5.out.mp.lt⟩
  replace hTb := Lib.hid hTb
  replace hTG := Lib.hid hTG
  replace hbq := Lib.hid hbq
  replace hS1 := Lib.hid hS1
  replace hS2 := Lib.hid hS2
  replace hl10 := Lib.hid hl10
  replace hXl := Lib.hid hXl
  go_wp2_with (first | (refine ldA ar30 rfl rfl rfl M5.out hKl.out ?_))
  refine Calls.mono (cR w16).out ?_
  rintro e w17 ⟨gr, rfl, hrg, hb⟩
  have B6 := Lib.hid hb
  replace hrg := Lib.hid hrg
  clear hb cR
  dsimp only
  have BA : BW w17 (w17.alloc (.cells (ivA .u8 KK) 49)) := (BW.refl w17).alloc
  have A8 := Lib.hid (AvB.new w17 49 KK)
  have B7 := Lib.hid (B6.out.trans BA)
  clear B6
  replace BA := Lib.hid BA
  go_upto_region 18 with (first | (refine ldW ar50 rfl rfl rfl hrg.out hKK.out ?_) | (refine alA ar50 rfl rfl ?_) | (refine stN ar50 rfl rfl rfl rfl hKK.out ?_))
  clear BA hrg
  generalize (w17.alloc _) = w18 at *
  generalize w17.heap.size = gk at *
  have V0 := Lib.hid (A8.out.mid hKb.out 16 20 (by rw [hKK.out]; decide) (by decide))
  have cTa := fun wz (h : BW w18 wz) => cT gk wz (V0.out.bw h) (V1.out.bw (B7.out.trans h))
  have E2 : ∀ y : LaterS [] w18, (convert 35 9 (.slice (cutA (some ⟨q, o, none⟩) (LX - 10) cX 1) (LX - (LX - 10)) (cX - (LX - 10)))).run Tryz.prog y.now = .ok (.string S2) y.now := fun y => by
   rw [← hS2.out]
   exact conv_sb (V2.out.bw (B7.out.trans y.bw))
  clear cT
  try simp only [Act.put, List.setIfInBounds_toArray, List.set_cons_succ, List.set_cons_zero]
  refine wp_region_gg [] [] [] (by kernel_rfl) ?_
  refine hoist [] [] (a1 := ?_) 0 rfl (by kernel_rfl) (.inl ⟨rfl, rfl⟩) rfl rfl rfl (fun x K hK => ?_) ?_
  rotate_left
  ·go_big_quiet_op
   exact hK
  refine hoist [] [] (a1 := ?_) 1 rfl (by kernel_rfl) (.inl ⟨rfl, rfl⟩) rfl rfl rfl (fun x K hK => ?_) ?_
  rotate_left
  ·go_big_quiet_op
   exact hK
  refine hoist [] [] (a1 := ?_) 2 rfl (by kernel_rfl) (.inl ⟨rfl, rfl⟩) rfl rfl rfl (fun x K hK => ?_) ?_
  rotate_left
  ·go_big_quiet_op
   exact hK
  refine hoist [] [] (a1 := ?_) 3 rfl (by kernel_rfl) (.inl ⟨rfl, rfl⟩) rfl rfl rfl (fun x K hK => ?_) ?_
  rotate_left
  ·go_big_quiet_op
   exact hK
  refine hoist [] [] (a1 := ?_) 4 rfl (by kernel_rfl) (.inl ⟨rfl, rfl⟩) rfl rfl rfl (fun x K hK => ?_) ?_
  rotate_left
  ·refine qlCutH (hi := LX - 10) rfl (by rfl) (by rfl) (by omega) (by omega) (by simp only [Act.put, List.setIfInBounds_toArray, List.set_cons_succ, List.set_cons_zero]; rfl) ?_
   exact hK
  refine hoist [] [] (a1 := ?_) 7 rfl (by kernel_rfl) (.inl ⟨rfl, rfl⟩) rfl rfl rfl (fun x K hK => ?_) ?_
  rotate_left
  ·go_big_quiet_op
   exact hK
  refine hoist [] [] (a1 := ?_) 8 rfl (by kernel_rfl) (.inl ⟨rfl, rfl⟩) rfl rfl rfl (fun x K hK => ?_) ?_
  rotate_left
  ·go_big_quiet_op
   exact hK
  refine hoist [] [] (a1 := ?_) 9 rfl (by kernel_rfl) (.inl ⟨rfl, rfl⟩) rfl rfl rfl (fun x K hK => ?_) ?_
  rotate_left
  ·refine qlCutL (lo := LX - 10) rfl (by rfl) (by rfl) (by omega) (by omega) (by simp only [Act.put, List.setIfInBounds_toArray, List.set_cons_succ, List.set_cons_zero]; rfl) ?_
   exact hK
  refine hoist [] [] (a1 := ?_) 10 rfl (by kernel_rfl) (.inl ⟨rfl, rfl⟩) rfl rfl rfl (fun x K hK => ?_) ?_
  rotate_left
  ·go_big_quiet_op
   exact hK
  refine effect 5 rfl (by kernel_rfl) (by kernel_rfl) rfl (fun x5 K hK => ?_)
  go_simp
  refine Calls.mono (cTa x5.now x5.bw).out ?_
  rintro e w19 ⟨v9, rfl, O9, hb⟩
  obtain ⟨s9, c9, rfl, _, _⟩ := O9.len
  replace hb : BW x5.now w19 := BW.of hb
  refine hK _ _ (hb.still []) ?_
  clear hK K
  have B8 := Lib.hid (B7.out.trans (x5.bw.trans hb))
  clear hb E2 cTa
  have E2 : ∀ y : LaterS [] w19, (convert 35 9 (.slice (cutA (some ⟨q, o, none⟩) (LX - 10) cX 1) (LX - (LX - 10)) (cX - (LX - 10)))).run Tryz.prog y.now = .ok (.string S2) y.now := fun y => by
   rw [← hS2.out]
   exact conv_sb (V2.out.bw (B8.out.trans y.bw))
  have E1 : ∀ y : LaterS [] w19, (convert 35 9 (.slice s9 10 c9)).run Tryz.prog y.now = .ok (.string S1) y.now := fun y => by
   rw [← hS1.out]
   exact conv_sb (O9.bw y.bw).sb
  clear O9
  try simp only [Act.put, List.setIfInBounds_toArray, List.set_cons_succ, List.set_cons_zero]
  refine hoist [] [] (a1 := ?_) 6 rfl (by kernel_rfl) (.inl ⟨rfl, rfl⟩) rfl rfl rfl (fun x K hK => ?_) ?_
  rotate_left
  ·go_big_quiet_op
   exact hK
  refine hoist [] [] (a1 := ?_) 11 rfl (by kernel_rfl) (.inl ⟨rfl, rfl⟩) rfl rfl rfl (fun x K hK => ?_) ?_
  rotate_left
  ·go_big_quiet_op
   exact hK
  refine done (by kernel_rfl) (fun xr => ?_)
  have B9 := Lib.hid (B5.out.trans (B8.out.trans xr.bw))
  have O8 := Lib.hid (O5.out.bw (B8.out.trans xr.bw))
  have W8 := Lib.hid (W5.out.bw (B8.out.trans xr.bw))
  clear E1 E2 B5 O5 W5 M5 V1 V2 V0 A8 B7 B8 hE
  generalize xr.now = w20 at *
  cases bq with
  | true =>
   go_wp2_with fail
   go_ret
   exact ⟨rfl, B9.out⟩
  | false =>
   have hne' : XB ≠ TG := fun h => (of_decide_eq_false hbq.out) h.symm
   have hR := hoth.out hne'
   have cO := copen_ok gc KK 9 0 0 mc [] (some ⟨q, o, none⟩) LX cX X' [] MOk.nil (by omega) (by decide) w20 W8.out O8.out.sb (fun k hk => by have := hown.out k hk; omega) (fun h0 => absurd h0 hR)
   generalize copenE KK 9 0 [] X' = er at *
   have d2 : ((er : Int) != 0) = true := by simpa using hR
   replace cO := Lib.hid cO
   clear hne' hoth hbq
   go_upto_region 20 with (fail)
   go_wp2_with fail
   refine Calls.mono cO.out ?_
   rintro e w21 hp
   rcases hp with ⟨-, rfl, hb⟩ | ⟨h, -⟩
   rotate_left
   ·exact absurd h hR
   have W9 := W8.out.bw hb
   have B10 := Lib.hid (B9.out.trans hb)
   have cU := Lib.hid (cway_used gc KK 9 0 0 mc [] w21 W9)
   clear hb cO hR W9
   dsimp only
   go_wp2_with fail
   refine Calls.mono cU.out ?_
   rintro e w' ⟨rfl, rfl⟩
   dsimp only
   go_wp2_with fail
   go_ret
   exact ⟨rfl, B10.out⟩
theorem law_srcback (cs0 : Array Value) (sa : Option Addr) (n cap : Nat) (a2 a3 : Int) (w : World) (w0 : Rd w (.scope (.seq (.block 16 (.label 4)) (.seq (.block 14 (.label 4)) .skip))) cs0.toList) (w1 : Rd w (.loop ctlTy) [.slice sa n cap]) (w2 : (Lit.int .u16 a2).wf = true) (w3 : (Lit.int .u8 a3).wf = true) :
  Calls Tryz.prog 4 #[.agg cs0, .slice sa n cap, .int .u16 a2, .int .u8 a3] w fun e w' => e = .returned (.bool true) ∧ Below w.heap.size w w' := by
 obtain ⟨k, s, rfl, h1, h2, h3, h4⟩ := cmaster2 w0
 obtain ⟨L, hV, wf⟩ := ctls_of_Rd w1
 have b2 := bounds_u16 w2
 have b3 := bounds_u8 w3
 obtain ⟨n2, rfl⟩ := Int.eq_ofNat_of_zero_le b2.1
 obtain ⟨n3, rfl⟩ := Int.eq_ofNat_of_zero_le b3.1
 exact (cback_walk k s h1 h2 h3 h4 sa n cap L n2 n3 (by omega) (by omega) w hV wf).mono fun _ _ h => ⟨h.1, h.2.bel⟩
end Go.Proofs.YtikmhlbpefednaaGreat
