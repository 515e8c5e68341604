/- The law PacerOwn. No condition. -/
import Derived.Test.YtgiajnfmjpdodaaPaG
namespace Go.Proofs.Ytgiajnfmjpdodaa
open Go.RowKit

theorem BW.stP {a b c : World} (h : BW a b) {S : List Nat} (t : Still S b c) (hS : ∀ k ∈ S, a.heap.size ≤ k) : BW a c := h.step (t.below (B := a.heap.size) h.size hS) (Nat.le_refl _)
def oS1 (l : List Nat) : PcS := ⟨0, 1000, 1000, 1, 1000, [[l], [], [], []], 0⟩
theorem oP (l : List Nat) (h1 : 1 ≤ l.length) (h2 : l.length ≤ 300) : pushN (newS 0 1000 1 1000) 0 l = (0, oS1 l) := by
  have hr : roomB (newS 0 1000 1 1000) (mny ((newS 0 1000 1 1000).qs.drop ((0 : Int).toNat + 1))) (siz ((newS 0 1000 1 1000).qs.drop ((0 : Int).toNat + 1))) l.length = true := by
    unfold roomB newS
    refine decide_eq_true ⟨by decide, ?_, ?_⟩
    · show (l.length : Int) ≤ 1000
      omega
    · show (0 : Int) - (0 : Nat) ≤ 1000 - l.length
      omega
  unfold pushN
  rw [if_neg (by omega), if_neg (by show ¬ ((1000 : Int) < l.length); omega), hr, if_neg (by decide)]
  rfl
theorem oO (l : List Nat) (h2 : l.length ≤ 300) : outN (oS1 l) = ([(0, l)], { oS1 l with hav := 1000 - l.length, qs := [[], [], [], []] }) := by
  have h : ¬ ((1000 : Int) < l.length) := by omega
  show outR 6 0 (oS1 l) [] = _
  simp [outR, oS1, h]

set_option maxRecDepth 100000 in
set_option maxHeartbeats 8000000 in
theorem law_pown (a : Option Addr) (len cap : Nat) (c : Int) (w : World) (h : Rd w (.loop (.label 4)) [.slice a len cap]) (_hc : (Lit.int .u8 c).wf = true) :
    Calls Try.prog 5 #[.slice a len cap, .int .u8 c] w fun e w' => e = .returned (.bool true) ∧ Below w.heap.size w w' := by
  obtain ⟨l, hv⟩ := SB_of_Rd h
  obtain ⟨_, _, he, hn, hm⟩ := hv.len
  simp only [Value.slice.injEq, true_and] at he
  obtain ⟨rfl, rfl⟩ := he
  have hll := hv.1
  unfold maxLen at hm
  clear h
  have ha := Lib.hid (pac_alive w)
  replace hv := Lib.hid hv
  go_enter Try.func5, Try.ntmps5
  go_wp2_with fail
  refine Calls.mono ha.out ?_
  rintro e w1 ⟨rfl, B1⟩
  replace B1 := Lib.hid B1
  clear ha
  by_cases hl1 : len < 1
  · have d1 : decide ((len : Int) < 1) = true := by simp; omega
    go_wp2_with fail
    go_ret
    exact ⟨rfl, B1.out⟩
  have d1 : decide ((len : Int) < 1) = false := by simp; omega
  by_cases hl : 300 < len
  · have d2 : decide ((300 : Int) < (len : Int)) = true := by simp; omega
    go_wp2_with fail
    go_ret
    exact ⟨rfl, B1.out⟩
  have d2 : decide ((300 : Int) < (len : Int)) = false := by simp; omega
  have cN := Lib.hid (pnew_ok 0 1000 1 1000 w1 (by decide) (by decide))
  go_wp2_with fail
  clear d1 d2
  refine Calls.mono cN.out ?_
  rintro e w2 ⟨g, gb, rfl, PV, hg, hgb, hb⟩
  have hg2 := HpB.lt (PV 0).cells
  have hgb2 : gb < w2.heap.size := HpB.lt (PV 0).bk
  have B2 := Lib.hid (B1.out.trans hb)
  have O2 := Lib.hid (OB.new0 w2 w2.heap.size (Nat.le_refl _))
  have A2 : Hid (BW w2 (w2.alloc (.cells #[] 5))) := (BW.refl _).alloc
  have V2 := Lib.hid ((hv.out.bw B2.out).bw A2.out)
  have hz1 := B1.out.size
  clear cN hb B1
  replace PV := Lib.hid PV
  dsimp only
  go_wp2_with (at_builtin; go_must (refine wpList_apOB rfl _ _ rfl w2.heap.size (.slice (some ⟨w2.heap.size, 0, none⟩) 0 0) 0 [] rfl O2.out _ rfl len l V2.out (by omega) A2.out.size ?_; intro sa c2 w3 hc2 hm2 O3 T3 hb3 G3; rw [Nat.zero_add] at *; rw [List.nil_append] at O3; unfold maxLen at hm2; replace A2 := Lib.hid (A2.out.step hb3 (Nat.le_refl _)); replace O3 := Lib.hid O3; clear T3 hb3 G3 O2 V2))
  have hz2 := B2.out.size
  have hz3 := A2.out.size
  have B3 := Lib.hid (B2.out.trans A2.out)
  have P3 := (PV.out w3.heap.size).bw A2.out
  have c7 := push_any w3.heap.size g gb nil4 (newS 0 1000 1 1000) 0 (.slice sa len c2) l w3 P3 ⟨by decide, by decide, by decide, by decide, by decide, by decide⟩ (by decide) (by decide) (Nat.le_refl _) (by rw [hll]; exact O3.out.sb) (by omega) (by decide) (by decide) (by decide) (fun k hk hm => by
    have h1 := O3.out.ge' k hk
    have : k = g := by simpa using (show k ∈ [g] from hm)
    omega)
  rw [oP l (by omega) (by omega)] at c7
  clear P3 PV A2 B2
  replace c7 := Lib.hid c7
  go_wp2_with fail
  refine Calls.mono c7.out ?_
  rintro e w4 ⟨rfl, ⟨vs4, H4, -⟩, TS⟩
  replace TS : Still [g] w3 w4 := TS
  have O4 := O3.out.still TS (fun k hk hm => by have := O3.out.ge' k hk; have : k = g := (by simpa using hm); omega)
  have B4 := Lib.hid (B3.out.stP TS (by simp; omega))
  have hz4 := TS.size
  have hlt4 := O3.out.lt'
  clear c7 TS B3
  obtain ⟨b, o, c3, hs, hb0, hb1, _, _, hc, hf⟩ := O4.form (by omega)
  simp only [Value.slice.injEq] at hs
  obtain ⟨rfl, -, rfl⟩ := hs
  have hb3 := hlt4 b rfl
  have ej := hc 0 (by omega)
  have fj := hf o
  rw [Nat.add_zero] at ej
  have TS5 := still_setCP w4 b o (.int .u8 c)
  have H5 := Lib.hid (H4.stillL TS5 (by simpa using hb3) (by simp; omega) (by simp; omega))
  have B5 := Lib.hid (B4.out.stP TS5 (by simp; omega))
  have hz5 := TS5.size
  clear hc hf O4 O3 H4 B4 TS5 hlt4
  dsimp only
  go_upto_region 10 with (fail)
  generalize w4.setCell ⟨b, o, none⟩ (.int .u8 c) = w5 at *
  clear ej fj
  have c10 := out_any w3.heap.size g gb vs4 (oS1 l) w5 H5.out ⟨by show 1 ≤ 1000000; decide, by show l.length + 0 + 0 ≤ 1000000000; omega, by show (1:Int) ≤ 1; decide, by show (1:Int) ≤ _; decide, by show (1:Int) ≤ 1000; decide, by show (1000:Int) ≤ _; decide⟩ (by show (0:Int) ≤ 1000; decide) (by show (1000:Int) ≤ _; decide) (by omega)
  rw [oO l (by omega)] at c10
  clear H5
  replace c10 := Lib.hid c10
  go_wp2_with fail
  refine Calls.mono c10.out ?_
  rintro e w6 ⟨v, rfl, O, -, -, TS⟩
  have B6 := Lib.hid (B5.out.stP TS (by simp; omega))
  clear TS c10 B5
  obtain ⟨g1, o1, cap1, rfl, _, _, hcap, hmc, hce⟩ := O.form (by simp)
  obtain ⟨u0, _, k0, U0⟩ := hce 0 (by simp)
  obtain ⟨s0, p0, rfl, _, _⟩ := U0.len
  unfold maxLen at hmc
  simp only [Nat.zero_mul, Nat.zero_add, Nat.add_zero, List.getElem_cons_zero, List.length_cons, List.length_nil] at k0 hcap U0 ⊢
  rw [hll] at k0 U0
  have V6 := Lib.hid (hv.out.bw B6.out)
  replace U0 := Lib.hid U0
  clear hce O
  go_upto_region 11 with (fail)
  have E1 : ∀ y : LaterS [] w6, _ := fun y => conv_sb (U0.out.bw y.bw).sb
  have E2 : ∀ y : LaterS [] w6, _ := fun y => conv_sb (V6.out.bw y.bw)
  have l0 := fun y : LaterS [] w6 => y.cell k0 (by simp)
  generalize bstr l = S at *
  try simp only [Act.put, List.setIfInBounds_toArray, List.set_cons_succ, List.set_cons_zero]
  refine wp_region_gg [] [] [] (by kernel_rfl) ?_
  refine hoist [] [] (a1 := ?_) 0 rfl (by kernel_rfl) (.inl ⟨rfl, rfl⟩) rfl rfl rfl (fun x K hK => ?_) ?_
  rotate_left
  · go_big_quiet_op
    exact hK
  refine hoist [] [] (a1 := ?_) 1 rfl (by kernel_rfl) (.inl ⟨rfl, rfl⟩) rfl rfl rfl (fun x K hK => ?_) ?_
  rotate_left
  · go_big_quiet_op
    exact hK
  refine hoist [] [] (a1 := ?_) 2 rfl (by kernel_rfl) (.inl ⟨rfl, rfl⟩) rfl rfl rfl (fun x K hK => ?_) ?_
  rotate_left
  · go_big_quiet_op
    exact hK
  refine hoist [] [] (a1 := ?_) 3 rfl (by kernel_rfl) (.inl ⟨rfl, rfl⟩) rfl rfl rfl (fun x K hK => ?_) ?_
  rotate_left
  · go_big_quiet_op
    exact hK
  refine hoist [] [] (a1 := ?_) 4 rfl (by kernel_rfl) (.inl ⟨rfl, rfl⟩) rfl rfl rfl (fun x K hK => ?_) ?_
  rotate_left
  · go_big_quiet_op
    exact hK
  refine hoist [] [] (a1 := ?_) 5 rfl (by kernel_rfl) (.inl ⟨rfl, rfl⟩) rfl rfl rfl (fun x K hK => ?_) ?_
  rotate_left
  · go_big_quiet_op
    exact hK
  refine hoist [] [] (a1 := ?_) 6 rfl (by kernel_rfl) (.inl ⟨rfl, rfl⟩) rfl rfl rfl (fun x K hK => ?_) ?_
  rotate_left
  · go_big_quiet_op
    exact hK
  refine hoist [] [] (a1 := ?_) 7 rfl (by kernel_rfl) (.inl ⟨rfl, rfl⟩) rfl rfl rfl (fun x K hK => ?_) ?_
  rotate_left
  · go_big_quiet_op
    exact hK
  refine hoist [] [] (a1 := ?_) 8 rfl (by kernel_rfl) (.inl ⟨rfl, rfl⟩) rfl rfl rfl (fun x K hK => ?_) ?_
  rotate_left
  · go_big_quiet_op
    exact hK
  refine hoist [] [] (a1 := ?_) 9 rfl (by kernel_rfl) (.inl ⟨rfl, rfl⟩) rfl rfl rfl (fun x K hK => ?_) ?_
  rotate_left
  · go_big_quiet_op
    exact hK
  refine hoist [] [] (a1 := ?_) 10 rfl (by kernel_rfl) (.inl ⟨rfl, rfl⟩) rfl rfl rfl (fun x K hK => ?_) ?_
  rotate_left
  · go_big_quiet_op
    exact hK
  refine hoist [] [] (a1 := ?_) 11 rfl (by kernel_rfl) (.inl ⟨rfl, rfl⟩) rfl rfl rfl (fun x K hK => ?_) ?_
  rotate_left
  · go_big_quiet_op
    exact hK
  refine hoist [] [] (a1 := ?_) 12 rfl (by kernel_rfl) (.inl ⟨rfl, rfl⟩) rfl rfl rfl (fun x K hK => ?_) ?_
  rotate_left
  · go_big_quiet_op
    exact hK
  refine hoist [] [] (a1 := ?_) 13 rfl (by kernel_rfl) (.inl ⟨rfl, rfl⟩) rfl rfl rfl (fun x K hK => ?_) ?_
  rotate_left
  · go_big_quiet_op
    exact hK
  refine done (by kernel_rfl) (fun xr => ?_)
  have B7 := Lib.hid (B6.out.trans xr.bw)
  go_wp2_with fail
  go_ret
  exact ⟨rfl, B7.out⟩
end Go.Proofs.Ytgiajnfmjpdodaa
