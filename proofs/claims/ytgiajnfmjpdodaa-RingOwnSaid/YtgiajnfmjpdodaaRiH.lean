/- The law RingOwn. No condition. -/
import Derived.Test.YtgiajnfmjpdodaaRiF
namespace Go.Proofs.Ytgiajnfmjpdodaa
open Go.RowKit

theorem one_put (x : Int) (b : List Nat) (h0 : 0 ≤ x) (h1 : 1 ≤ b.length) : putN 1 (b.length : Nat) [] x b = (0, [(x, b)]) := by
  unfold putN
  have hl : lowN [] x = 0 := rfl
  rw [if_neg (by omega), if_neg (by omega), if_neg (by
    rintro (h | h)
    · unfold isAt at h; simp at h
    · simp at h)]
  congr 1
  have hi : insN [] x b = [(x, b)] := by unfold insN; rfl
  rw [hi]
  unfold trimN
  have e : lensL [(x, b)] = b.length := rfl
  rw [e, if_neg (by simp)]
theorem one_at (x : Int) (b : List Nat) : isAt [(x, b)] x = true ∧ getN [(x, b)] x = b := by
  have hl : lowN [(x, b)] x = 0 := by unfold lowN; rw [List.takeWhile_cons, if_neg (by simp)]; rfl
  have h1 : isAt [(x, b)] x = true := by unfold isAt; rw [hl]; exact decide_eq_true ⟨by simp, rfl⟩
  refine ⟨h1, ?_⟩
  unfold getN
  rw [h1, if_pos rfl, hl]; rfl
set_option maxRecDepth 100000 in
set_option maxHeartbeats 8000000 in
theorem law_rown (x : Int) (a : Option Addr) (len cap : Nat) (c : Int) (w : World) (hx : (Lit.int .i64 x).wf = true) (h : Rd w (.loop (.label 4)) [.slice a len cap]) (hc : (Lit.int .u8 c).wf = true) :
    Calls Try.prog 11 #[.int .i64 x, .slice a len cap, .int .u8 c] w fun e w' => e = .returned (.bool true) ∧ Below w.heap.size w w' := by
  obtain ⟨l, hv⟩ := SB_of_Rd h
  obtain ⟨_, _, he, hn, hm⟩ := hv.len
  simp only [Value.slice.injEq, true_and] at he
  obtain ⟨rfl, rfl⟩ := he
  obtain ⟨x0, x1⟩ := bounds_i64 hx
  have hll := hv.1
  unfold maxLen at hm
  clear h hx hc
  have ha := Lib.hid (ring_alive w)
  replace hv := Lib.hid hv
  go_enter Try.func11, Try.ntmps11
  go_wp2_with fail
  refine Calls.mono ha.out ?_
  rintro e w1 ⟨rfl, B1⟩
  replace B1 := Lib.hid B1
  clear ha
  dsimp only
  by_cases hl0 : len = 0
  · have d1 : ((len : Int) == 0) = true := by simp; omega
    go_wp2_with fail
    go_ret
    exact ⟨rfl, B1.out⟩
  have d1 : ((len : Int) == 0) = false := by simp; omega
  by_cases hl3 : 300 < len
  · have d2 : decide ((300 : Int) < (len : Int)) = true := by simp; omega
    go_wp2_with fail
    go_ret
    exact ⟨rfl, B1.out⟩
  have d2 : decide ((300 : Int) < (len : Int)) = false := by simp; omega
  by_cases hx0 : x < 0
  · have d3 : decide (x < 0) = true := by simpa using hx0
    go_wp2_with fail
    go_ret
    exact ⟨rfl, B1.out⟩
  have d3 : decide (x < 0) = false := by simpa using hx0
  have cN := Lib.hid (ring_new 1 (len : Int) w1 (by decide) (by omega))
  go_wp2_with fail
  clear d1 d2 d3
  refine Calls.mono cN.out ?_
  rintro e w2 ⟨rfl, RV, hb⟩
  have B2 := Lib.hid (B1.out.trans hb)
  have hg := B1.out.size
  have hg2 := HpB.lt (RV 0).cells
  generalize w1.heap.size = g at *
  have E1 := conv_sb (hv.out.bw B2.out)
  have O2 := Lib.hid (OB.new0 w2 w2.heap.size (Nat.le_refl _))
  have A2 : Hid (BW w2 (w2.alloc (.cells #[] 5))) := Lib.hid (BW.refl _).alloc
  have V2 := Lib.hid ((hv.out.bw B2.out).bw A2.out)
  clear cN hb B1
  generalize hS : bstr l = S at *
  replace RV := Lib.hid RV
  replace hS := Lib.hid hS
  dsimp only
  go_wp2_with (at_builtin; go_must (refine wpList_apOB rfl _ _ rfl w2.heap.size (.slice (some ⟨w2.heap.size, 0, none⟩) 0 0) 0 [] rfl O2.out _ rfl len l V2.out (by omega) A2.out.size ?_; intro sa c2 w3 hc2 hm2 O3 T3 hb3 G3; rw [Nat.zero_add] at *; rw [List.nil_append] at O3; unfold maxLen at hm2; replace A2 := Lib.hid (A2.out.step hb3 (Nat.le_refl _)); replace O3 := Lib.hid O3; clear T3 hb3 G3 O2 V2))
  clear E1
  have B3 := Lib.hid (B2.out.trans A2.out)
  have hz2 := B2.out.size
  have H3 := (RV.out w3.heap.size).bw A2.out
  have hlen1 : 1 ≤ l.length := by omega
  have c7 := put_any w3.heap.size g 1 (len : Int) (.slice none 0 0) [] x (.slice sa len c2) l w3 H3 aS1' (by decide) (by decide) (Nat.le_refl _) (by rw [hll]; exact O3.out.sb) (by omega) (by decide) (by decide) (by omega) (by omega)
  rw [show ((len : Nat) : Int) = (l.length : Nat) by rw [hll], one_put x l (by omega) hlen1, ← show ((len : Nat) : Int) = (l.length : Nat) by rw [hll]] at c7
  clear RV B2
  replace c7 := Lib.hid c7
  go_wp2_with fail
  refine Calls.mono c7.out ?_
  rintro e w4 ⟨rfl, ⟨v4, H4, hk4⟩, TS⟩
  replace TS : Still [g] w3 w4 := TS
  have O4 := O3.out.still TS (fun k hk hm => by have := O3.out.ge' k hk; have : k = g := (by simpa using hm); omega)
  have B4 := Lib.hid (BW.stP B3.out TS (by simp; omega))
  have hz4 := TS.size
  have hlt4 := O3.out.lt'
  have hz3 := A2.out.size
  clear c7 TS B3
  obtain ⟨b, o, c3, hs, hb0, hb1, _, _, hcc, hf⟩ := O4.form (by omega)
  simp only [Value.slice.injEq] at hs
  obtain ⟨rfl, -, rfl⟩ := hs
  have hb3 := hlt4 b rfl
  have ej := hcc 0 (by omega)
  have fj := hf o
  rw [Nat.add_zero] at ej
  have TS5 := still_setR w4 b o (.int .u8 c)
  have H5 := Lib.hid (H4.old TS5 (by simpa using hb3) (by simp; omega))
  have B5 := Lib.hid (BW.stP B4.out TS5 (by simp; omega))
  have hz5 := TS5.size
  have hat := one_at x l
  clear hcc hf O4 O3 H4 B4 TS5 hlt4
  dsimp only
  go_upto_region 11 with (fail)
  generalize w4.setCell ⟨b, o, none⟩ (.int .u8 c) = w5 at *
  clear ej fj
  have hlen5 : lensL [(x, l)] ≤ 1000000000 := by show l.length + 0 ≤ _; omega
  have c10 := get_any w3.heap.size g 1 (len : Int) v4 [(x, l)] x w5 H5.out (Srt.of (List.pairwise_singleton _ _)) (by simp) hlen5
  rw [hat.1, hat.2] at c10
  replace c10 := Lib.hid c10
  replace hat := Lib.hid hat
  go_wp2_with fail
  refine Calls.mono c10.out ?_
  rintro e w6 ⟨u6, rfl, O6, hb6⟩
  rw [hll] at O6
  have B6 := Lib.hid (B5.out.trans hb6)
  have H6 := Lib.hid (H5.out.bw hb6)
  obtain ⟨g6, o6, c6, rfl, hg6, hlt6, _, _, hcc6, hf6⟩ := O6.form (by omega)
  have E2 := conv_sb O6.sb
  rw [hS.out] at E2
  have ej := hcc6 (len - 1) (by omega)
  have fj := hf6 (o6 + (len - 1))
  have V6 := Lib.hid (hv.out.bw B6.out)
  have TS7 := still_setR w6 g6 (o6 + (len - 1)) (.int .u8 c)
  have B57 := BW.stP hb6 TS7 (by simpa using hg6)
  have H7 := Lib.hid (H5.out.bw B57)
  have B7 := Lib.hid (B5.out.trans B57)
  have q1 : IntKind.i64.wrap ((len : Int) - 1) = ((len - 1 : Nat) : Int) := by rw [show (len : Int) - 1 = ((len - 1 : Nat) : Int) by omega]; exact IntWalk.i64_in _ (by omega)
  have hlt7 : len - 1 < len := by omega
  clear c10 hcc6 hf6 O6 TS7 B57 H6 hb6 H5 B5
  dsimp only
  go_upto_region 15 with (fail)
  generalize w6.setCell ⟨g6, o6 + (len - 1), none⟩ (.int .u8 c) = w7 at *
  clear ej fj E2 q1
  have c15 := get_any w3.heap.size g 1 (len : Int) v4 [(x, l)] x w7 H7.out (Srt.of (List.pairwise_singleton _ _)) (by simp) hlen5
  rw [hat.out.1, hat.out.2] at c15
  replace c15 := Lib.hid c15
  go_wp2_with fail
  refine Calls.mono c15.out ?_
  rintro e w8 ⟨u8, rfl, O8, hb8⟩
  rw [hll] at O8
  have B8 := Lib.hid (B7.out.trans hb8)
  obtain ⟨s8, c8, rfl, _, _⟩ := O8.len
  have E3 := conv_sb O8.sb
  rw [hS.out] at E3
  clear c15 O8 hb8
  dsimp only
  go_wp2_with fail
  go_ret
  exact ⟨rfl, B8.out⟩
end Go.Proofs.Ytgiajnfmjpdodaa
