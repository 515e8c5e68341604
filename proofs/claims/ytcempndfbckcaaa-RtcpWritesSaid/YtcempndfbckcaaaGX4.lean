/- rtcp.may: may a packet of a kind be? No condition but the sizes'. rtcp.may of any packet. No condition but the sizes'. rtcp.Write of any packets. No condition but the sizes'. -/
import Derived.Test.YtcempndfbckcaaaGX3
import Derived.Test.YtcempndfbckcaaaGX2
import Derived.Test.YtcempndfbckcaaaArB
namespace Go.Proofs.Ytcempndfbckcaaa
open Go.RowKit
def rateB (x : Nat) : Bool := decide (manN x * 2 ^ expN x = x ∧ x < 9223372036854775808)
theorem rate_back (x : Nat) (hx : x < 18446744073709551616) : manN x * 2 ^ expN x ≤ x ∧ manN x < 262144 ∧ expN x ≤ 46 := ⟨Nat.div_mul_le_self x (2 ^ expN x), manN_lt x, expN_le x hx⟩
set_option maxRecDepth 100000 in
set_option maxHeartbeats 8000000 in
theorem may_gen (k r1 r2 r3 r4 r5 : Int) (fa fb fc fd W V : Bool) (hk : -9223372036854775808 ≤ k ∧ k ≤ 9223372036854775807) (hmost : mostV k = shA r1 r2 r3 r4 r5 fa fb fc fd) (hik : isKind k = true) (s m t st pk oc : Nat) (ar an as_ al af : Option Addr) (nr nn ns nl nf cr cn cs cl_ cf rt : Nat) (hW : ∀ wz, Calls Try.prog 107 #[.agg #[.int .i64 k, .int .u32 (s : Nat), .int .u32 (m : Nat), .int .u64 (t : Nat), .int .u32 (st : Nat), .int .u32 (pk : Nat), .int .u32 (oc : Nat), .slice ar nr cr, .slice an nn cn, .slice as_ ns cs, .slice al nl cl_, .slice af nf cf, .int .u64 (rt : Nat)], .agg #[.int .i64 r1, .int .i64 r2, .int .i64 r3, .int .i64 r4, .int .i64 r5, .bool fa, .bool fb, .bool fc, .bool fd]] wz fun e w' => e = .returned (.bool W) ∧ BW wz w') (h1 : k = 1 → V = (W && !(decide (nl = 0)))) (h3 : k = 3 → V = (W && !(decide (nf = 0)))) (h0 : k ≠ 1 → k ≠ 3 → V = W) (hrt : rt < 18446744073709551616) (nams : List (Nat × List Nat)) (reps : List Rep) (hnn : nn ≤ 1000) (hnr : nr ≤ 1000) (hnl : nl ≤ 1000) (hnf : nf ≤ 1000) (hns : ns ≤ 1000) (hnm : ∀ p ∈ nams, p.2.length ≤ 1000) (w : World) (hvn : SQ EM w 0 (.slice an nn cn) nn nams) (hvr : SQ ER w 0 (.slice ar nr cr) nr reps) :
  Calls Try.prog 84 #[.agg #[.int .i64 k, .int .u32 (s : Nat), .int .u32 (m : Nat), .int .u64 (t : Nat), .int .u32 (st : Nat), .int .u32 (pk : Nat), .int .u32 (oc : Nat), .slice ar nr cr, .slice an nn cn, .slice as_ ns cs, .slice al nl cl_, .slice af nf cf, .int .u64 (rt : Nat)]] w fun e w' => e = .returned (.bool (V && !(nams.any badN) && !(reps.any badR) && rateB rt)) ∧ BW w w' := by
 have hWf : Hid (W = false → V = false) := by
  intro hw
  subst hw
  by_cases q1 : k = 1
  ·rw [h1 q1]; rfl
  by_cases q3 : k = 3
  ·rw [h3 q3]; rfl
  exact h0 q1 q3
 have hWt : Hid (W = true → V = false ∧ (((k == 1) = true ∧ ((nl : Int) == 0) = true) ∨ ((k == 1) = false ∧ (k == 3) = true ∧ ((nf : Int) == 0) = true)) ∨ V = true ∧ (((k == 1) = true ∧ ((nl : Int) == 0) = false ∧ (k == 3) = false) ∨ ((k == 1) = false ∧ (k == 3) = true ∧ ((nf : Int) == 0) = false) ∨ ((k == 1) = false ∧ (k == 3) = false))) := by
  intro hw
  subst hw
  by_cases q1 : k = 1
  ·have := h1 q1
   by_cases z : nl = 0
   ·left; rw [this, decide_eq_true z]; exact ⟨rfl, .inl ⟨by simp [q1], by simp [z]⟩⟩
   ·right; rw [this, decide_eq_false z]; exact ⟨rfl, .inl ⟨by simp [q1], by simp; omega, by simp [q1]⟩⟩
  by_cases q3 : k = 3
  ·have := h3 q3
   by_cases z : nf = 0
   ·left; rw [this, decide_eq_true z]; exact ⟨rfl, .inr ⟨by simp [q1], by simp [q3], by simp [z]⟩⟩
   ·right; rw [this, decide_eq_false z]; exact ⟨rfl, .inr (.inl ⟨by simp [q1], by simp [q3], by simp; omega⟩)⟩
  right
  exact ⟨h0 q1 q3, .inr (.inr ⟨by simp [q1], by simp [q3]⟩)⟩
 have BA : BW w (w.alloc (.cells #[.int .i64 k, .int .u32 (s : Nat), .int .u32 (m : Nat), .int .u64 (t : Nat), .int .u32 (st : Nat), .int .u32 (pk : Nat), .int .u32 (oc : Nat), .slice ar nr cr, .slice an nn cn, .slice as_ ns cs, .slice al nl cl_, .slice af nf cf, .int .u64 (rt : Nat)] 111)) := (BW.refl w).alloc
 have P := Lib.hid (HpB.new w (.cells #[.int .i64 k, .int .u32 (s : Nat), .int .u32 (m : Nat), .int .u64 (t : Nat), .int .u32 (st : Nat), .int .u32 (pk : Nat), .int .u32 (oc : Nat), .slice ar nr cr, .slice an nn cn, .slice as_ ns cs, .slice al nl cl_, .slice af nf cf, .int .u64 (rt : Nat)] 111))
 have B := Lib.hid BA
 have cM := fun wz => Lib.hid (most_ok k hk wz)
 rw [hmost, hik] at cM
 have cW := fun wz => Lib.hid (hW wz)
 have cN := fun wz (h : BW w wz) => Lib.hid (has_nam nams nn hnn _ wz (hvn.bw h) hnm)
 have cR := fun wz (h : BW w wz) => Lib.hid (has_rep reps nr hnr _ wz (hvr.bw h) (fun _ _ => trivial))
 have c0 := fun wz => Lib.hid (rate_ok rt hrt wz)
 have hsh := Lib.hid (rate_back rt hrt)
 have hrb : rateB rt = decide (manN rt * 2 ^ expN rt = rt ∧ rt < 9223372036854775808) := rfl
 rw [show rt / 2 ^ expN rt = manN rt from rfl] at c0
 generalize rateB rt = rb at *
 generalize manN rt = mn at *
 generalize expN rt = ex at *
 have hex : (ex : Int) ≤ 46 := by have := hsh.out.2.2; omega
 obtain ⟨q, hq⟩ : ∃ q, mn * 2 ^ ex = q := ⟨_, rfl⟩
 rw [hq] at hrb
 have hq2 : Hid (q ≤ rt) := by have := hsh.out.1; rw [hq] at this; exact this
 have e57 : Hid (IntKind.u64.wrap ((mn : Int) * 2 ^ ex) = (q : Int)) := by
  have h1 : ((mn : Int) * 2 ^ ex) = ((mn * 2 ^ ex : Nat) : Int) := by push_cast; rfl
  show _ = _
  rw [h1, hq, IntKind.wrap_u64]
  have := hq2.out
  omega
 obtain ⟨y, hy⟩ : ∃ y : Nat, rt / 9223372036854775808 = y := ⟨_, rfl⟩
 have e63 : Hid ((rt : Int) / 9223372036854775808 = (y : Int)) := by show _ = _; omega
 have hy0 : Hid (rt < 9223372036854775808 ↔ y = 0) := by show _ ↔ _; omega
 clear hsh
 replace hrb := Lib.hid hrb
 replace hq := Lib.hid hq
 replace hy := Lib.hid hy
 generalize nams.any badN = bn at *
 generalize reps.any badR = br at *
 clear hvn hvr hnm hW hrt h1 h3 h0 hmost hik hk
 replace BA := Lib.hid BA
 go_enter Try.func84, Try.ntmps84
 go_upto_region 1 with (fail)
 generalize (w.alloc _) = w1 at *
 generalize w.heap.size = g at *
 clear BA
 have z0 := hp_cell (P.out) 0
 have z1 := hp_cell (P.out) 1
 have z2 := hp_cell (P.out) 2
 have z3 := hp_cell (P.out) 3
 have z4 := hp_cell (P.out) 4
 have z5 := hp_cell (P.out) 5
 have z6 := hp_cell (P.out) 6
 have z7 := hp_cell (P.out) 7
 have z8 := hp_cell (P.out) 8
 have z9 := hp_cell (P.out) 9
 have z10 := hp_cell (P.out) 10
 have z11 := hp_cell (P.out) 11
 have z12 := hp_cell (P.out) 12
 simp only [List.getElem?_toArray, List.getElem?_cons_zero, List.getElem?_cons_succ] at z0 z1 z2 z3 z4 z5 z6 z7 z8 z9 z10 z11 z12
 go_wp2_with fail
 refine Calls.mono (cM w1).out ?_
 rintro e w2 ⟨rfl, hb⟩
 replace P := Lib.hid (P.out.bw hb)
 replace B := Lib.hid (B.out.trans hb)
 clear hb cM
 clear z0 z1 z2 z3 z4 z5 z6 z7 z8 z9 z10 z11 z12
 dsimp only
 have BS : BW w2 (w2.alloc (.cells #[.int .i64 r1, .int .i64 r2, .int .i64 r3, .int .i64 r4, .int .i64 r5, .bool fa, .bool fb, .bool fc, .bool fd] 179)) := (BW.refl _).alloc
 have Y := Lib.hid (HpB.new w2 (.cells #[.int .i64 r1, .int .i64 r2, .int .i64 r3, .int .i64 r4, .int .i64 r5, .bool fa, .bool fb, .bool fc, .bool fd] 179))
 replace P := Lib.hid (P.out.bw BS)
 replace B := Lib.hid (B.out.trans BS)
 replace BS := Lib.hid BS
 go_upto_region 2 with (fail)
 generalize (w2.alloc _) = w3 at *
 generalize w2.heap.size = gy at *
 clear BS
 have z0 := hp_cell (P.out) 0
 have z1 := hp_cell (P.out) 1
 have z2 := hp_cell (P.out) 2
 have z3 := hp_cell (P.out) 3
 have z4 := hp_cell (P.out) 4
 have z5 := hp_cell (P.out) 5
 have z6 := hp_cell (P.out) 6
 have z7 := hp_cell (P.out) 7
 have z8 := hp_cell (P.out) 8
 have z9 := hp_cell (P.out) 9
 have z10 := hp_cell (P.out) 10
 have z11 := hp_cell (P.out) 11
 have z12 := hp_cell (P.out) 12
 simp only [List.getElem?_toArray, List.getElem?_cons_zero, List.getElem?_cons_succ] at z0 z1 z2 z3 z4 z5 z6 z7 z8 z9 z10 z11 z12
 have k0 := hp_cell (Y.out) 0
 have k1 := hp_cell (Y.out) 1
 have k2 := hp_cell (Y.out) 2
 have k3 := hp_cell (Y.out) 3
 have k4 := hp_cell (Y.out) 4
 have k5 := hp_cell (Y.out) 5
 have k6 := hp_cell (Y.out) 6
 have k7 := hp_cell (Y.out) 7
 have k8 := hp_cell (Y.out) 8
 simp only [List.getElem?_toArray, List.getElem?_cons_zero, List.getElem?_cons_succ] at k0 k1 k2 k3 k4 k5 k6 k7 k8
 go_wp2_with fail
 refine Calls.mono (cW w3).out ?_
 rintro e w4 ⟨rfl, hb⟩
 replace P := Lib.hid (P.out.bw hb)
 replace B := Lib.hid (B.out.trans hb)
 clear hb cW Y
 clear z0 z1 z2 z3 z4 z5 z6 z7 z8 z9 z10 z11 z12
 clear k0 k1 k2 k3 k4 k5 k6 k7 k8
 dsimp only
 have z0 := hp_cell (P.out) 0
 have z1 := hp_cell (P.out) 1
 have z2 := hp_cell (P.out) 2
 have z3 := hp_cell (P.out) 3
 have z4 := hp_cell (P.out) 4
 have z5 := hp_cell (P.out) 5
 have z6 := hp_cell (P.out) 6
 have z7 := hp_cell (P.out) 7
 have z8 := hp_cell (P.out) 8
 have z9 := hp_cell (P.out) 9
 have z10 := hp_cell (P.out) 10
 have z11 := hp_cell (P.out) 11
 have z12 := hp_cell (P.out) 12
 simp only [List.getElem?_toArray, List.getElem?_cons_zero, List.getElem?_cons_succ] at z0 z1 z2 z3 z4 z5 z6 z7 z8 z9 z10 z11 z12
 cases W with
 | false =>
  obtain rfl := hWf.out rfl
  clear hWt hWf
  go_wp2_with fail
  go_ret
  exact ⟨rfl, B.out⟩
 | true =>
  rcases hWt.out rfl with ⟨rfl, hx⟩ | ⟨rfl, hx⟩
  ·clear hWt hWf
   rcases hx with ⟨e1, e2⟩ | ⟨e1, e3, e2⟩
   all_goals
    go_wp2_with fail
    go_ret
    exact ⟨rfl, B.out⟩
  clear hWt hWf
  rcases hx with ⟨e1, e2, e3⟩ | ⟨e1, e3, e2⟩ | ⟨e1, e3⟩
  all_goals
   go_upto_region 4 with (fail)
   have cN1 := cN w4 B.out
   clear cN
   go_wp2_with fail
   refine Calls.mono cN1.out ?_
   rintro e w5 ⟨rfl, hb⟩
   replace P := Lib.hid (P.out.bw hb)
   replace B := Lib.hid (B.out.trans hb)
   clear hb cN1
   clear z0 z1 z2 z3 z4 z5 z6 z7 z8 z9 z10 z11 z12
   dsimp only
   have z0 := hp_cell (P.out) 0
   have z1 := hp_cell (P.out) 1
   have z2 := hp_cell (P.out) 2
   have z3 := hp_cell (P.out) 3
   have z4 := hp_cell (P.out) 4
   have z5 := hp_cell (P.out) 5
   have z6 := hp_cell (P.out) 6
   have z7 := hp_cell (P.out) 7
   have z8 := hp_cell (P.out) 8
   have z9 := hp_cell (P.out) 9
   have z10 := hp_cell (P.out) 10
   have z11 := hp_cell (P.out) 11
   have z12 := hp_cell (P.out) 12
   simp only [List.getElem?_toArray, List.getElem?_cons_zero, List.getElem?_cons_succ] at z0 z1 z2 z3 z4 z5 z6 z7 z8 z9 z10 z11 z12
   cases bn with
   | true =>
    go_wp2_with fail
    go_ret
    exact ⟨rfl, B.out⟩
   | false =>
    have cR1 := cR w5 B.out
    clear cR
    go_wp2_with fail
    refine Calls.mono cR1.out ?_
    rintro e w6 ⟨rfl, hb⟩
    replace P := Lib.hid (P.out.bw hb)
    replace B := Lib.hid (B.out.trans hb)
    clear hb cR1
    clear z0 z1 z2 z3 z4 z5 z6 z7 z8 z9 z10 z11 z12
    dsimp only
    have z0 := hp_cell (P.out) 0
    have z1 := hp_cell (P.out) 1
    have z2 := hp_cell (P.out) 2
    have z3 := hp_cell (P.out) 3
    have z4 := hp_cell (P.out) 4
    have z5 := hp_cell (P.out) 5
    have z6 := hp_cell (P.out) 6
    have z7 := hp_cell (P.out) 7
    have z8 := hp_cell (P.out) 8
    have z9 := hp_cell (P.out) 9
    have z10 := hp_cell (P.out) 10
    have z11 := hp_cell (P.out) 11
    have z12 := hp_cell (P.out) 12
    simp only [List.getElem?_toArray, List.getElem?_cons_zero, List.getElem?_cons_succ] at z0 z1 z2 z3 z4 z5 z6 z7 z8 z9 z10 z11 z12
    cases br with
    | true =>
     go_wp2_with fail
     go_ret
     exact ⟨rfl, B.out⟩
    | false =>
     go_wp2_with fail
     refine Calls.mono (c0 w6).out ?_
     rintro e w' ⟨rfl, rfl⟩
     dsimp only
     clear c0
     go_upto_region 9 with (fail)
     clear z0 z1 z2 z3 z4 z5 z6 z7 z8 z9 z10 z11 z12
     have l12 : ∀ y : LaterS [] w6, y.now.cell? ⟨g, 12, none⟩ = some (.int .u64 (rt : Nat)) := fun y => (hp_cell (P.out.bw y.bw) 12).trans rfl
     have e5 := e57.out
     have e6 := e63.out
     have hrb3 : Hid (rb = decide (q = rt ∧ y = 0)) := by show _ = _; rw [hrb.out]; exact decide_eq_decide.2 ⟨fun h => ⟨h.1, hy0.out.1 h.2⟩, fun h => ⟨h.1, hy0.out.2 h.2⟩⟩
     clear hrb hy0 hq hy e57 e63
     by_cases h1 : q = rt
     rotate_left
     ·have e1 : ((q : Int) == (rt : Int)) = false := by simp; omega
      have hF : Hid (rb = false) := by show _ = _; rw [hrb3.out]; exact decide_eq_false (fun h => h1 h.1)
      clear h1 hrb3
      refine wp_region_gg [] [] [] (by kernel_rfl) ?_
      refine hoist [] [] (a1 := ?_) 0 rfl (by kernel_rfl) (.inl ⟨rfl, rfl⟩) rfl rfl rfl (fun x K hK => ?_) ?_
      rotate_left
      ·go_big_quiet_op
       exact hK
      refine hoist [] [] (a1 := ?_) 1 rfl (by kernel_rfl) (.inl ⟨rfl, rfl⟩) rfl rfl rfl (fun x K hK => ?_) ?_
      rotate_left
      ·go_big_quiet_op
       exact hK
      refine hoist [] [] (a1 := ?_) 2 rfl (by kernel_rfl) (.inl ⟨rfl, rfl⟩) rfl rfl rfl (fun x K hK => ?_) ?_
      rotate_left
      ·go_big_quiet_op
       exact hK
      refine hoist [] [] (a1 := ?_) 3 rfl (by kernel_rfl) (.inl ⟨rfl, rfl⟩) rfl rfl rfl (fun x K hK => ?_) ?_
      rotate_left
      ·go_big_quiet_op
       exact hK
      refine hoist [] [] (a1 := ?_) 4 rfl (by kernel_rfl) (.inl ⟨rfl, rfl⟩) rfl rfl rfl (fun x K hK => ?_) ?_
      rotate_left
      ·go_big_quiet_op
       exact hK
      refine hoist [] [] (a1 := ?_) 5 rfl (by kernel_rfl) (.inl ⟨rfl, rfl⟩) rfl rfl rfl (fun x K hK => ?_) ?_
      rotate_left
      ·go_big_quiet_op
       exact hK
      refine hoist [] [] (a1 := ?_) 6 rfl (by kernel_rfl) (.inl ⟨rfl, rfl⟩) rfl rfl rfl (fun x K hK => ?_) ?_
      rotate_left
      ·go_big_quiet_op
       exact hK
      refine hoist_skip [] [] 7 rfl (by kernel_rfl) (.inl ⟨rfl, rfl⟩) rfl (a1 := ?_) ?_ ?_
      rotate_left
      ·simp only [Act.put, List.setIfInBounds_toArray, List.set_cons_succ, List.set_cons_zero]; rfl
      refine hoist_skip [] [] 8 rfl (by kernel_rfl) (.inl ⟨rfl, rfl⟩) rfl (a1 := ?_) ?_ ?_
      rotate_left
      ·simp only [Act.put, List.setIfInBounds_toArray, List.set_cons_succ, List.set_cons_zero]; rfl
      refine hoist_skip [] [] 9 rfl (by kernel_rfl) (.inl ⟨rfl, rfl⟩) rfl (a1 := ?_) ?_ ?_
      rotate_left
      ·simp only [Act.put, List.setIfInBounds_toArray, List.set_cons_succ, List.set_cons_zero]; rfl
      refine hoist_skip [] [] 10 rfl (by kernel_rfl) (.inl ⟨rfl, rfl⟩) rfl (a1 := ?_) ?_ ?_
      rotate_left
      ·simp only [Act.put, List.setIfInBounds_toArray, List.set_cons_succ, List.set_cons_zero]; rfl
      refine hoist [] [] (a1 := ?_) 11 rfl (by kernel_rfl) (.inl ⟨rfl, rfl⟩) rfl rfl rfl (fun x K hK => ?_) ?_
      rotate_left
      ·go_big_quiet_op
       exact hK
      refine hoist [] [] (a1 := ?_) 12 rfl (by kernel_rfl) (.inl ⟨rfl, rfl⟩) rfl rfl rfl (fun x K hK => ?_) ?_
      rotate_left
      ·go_big_quiet_op
       exact hK
      refine done (by kernel_rfl) (fun xr => ?_)
      have BF := Lib.hid (B.out.trans xr.bw)
      clear l12 B P
      go_wp2_with fail
      go_ret
      exact ⟨by rw [hF.out]; rfl, BF.out⟩
     have e1 : ((q : Int) == (rt : Int)) = true := by simp; omega
     by_cases h2 : y = 0
     rotate_left
     ·have e2 : ((y : Int) == 0) = false := by simp; omega
      have hF : Hid (rb = false) := by show _ = _; rw [hrb3.out]; exact decide_eq_false (fun h => h2 h.2)
      clear h1 h2 hrb3
      refine wp_region_gg [] [] [] (by kernel_rfl) ?_
      refine hoist [] [] (a1 := ?_) 0 rfl (by kernel_rfl) (.inl ⟨rfl, rfl⟩) rfl rfl rfl (fun x K hK => ?_) ?_
      rotate_left
      ·go_big_quiet_op
       exact hK
      refine hoist [] [] (a1 := ?_) 1 rfl (by kernel_rfl) (.inl ⟨rfl, rfl⟩) rfl rfl rfl (fun x K hK => ?_) ?_
      rotate_left
      ·go_big_quiet_op
       exact hK
      refine hoist [] [] (a1 := ?_) 2 rfl (by kernel_rfl) (.inl ⟨rfl, rfl⟩) rfl rfl rfl (fun x K hK => ?_) ?_
      rotate_left
      ·go_big_quiet_op
       exact hK
      refine hoist [] [] (a1 := ?_) 3 rfl (by kernel_rfl) (.inl ⟨rfl, rfl⟩) rfl rfl rfl (fun x K hK => ?_) ?_
      rotate_left
      ·go_big_quiet_op
       exact hK
      refine hoist [] [] (a1 := ?_) 4 rfl (by kernel_rfl) (.inl ⟨rfl, rfl⟩) rfl rfl rfl (fun x K hK => ?_) ?_
      rotate_left
      ·go_big_quiet_op
       exact hK
      refine hoist [] [] (a1 := ?_) 5 rfl (by kernel_rfl) (.inl ⟨rfl, rfl⟩) rfl rfl rfl (fun x K hK => ?_) ?_
      rotate_left
      ·go_big_quiet_op
       exact hK
      refine hoist [] [] (a1 := ?_) 6 rfl (by kernel_rfl) (.inl ⟨rfl, rfl⟩) rfl rfl rfl (fun x K hK => ?_) ?_
      rotate_left
      ·go_big_quiet_op
       exact hK
      refine hoist [] [] (a1 := ?_) 7 rfl (by kernel_rfl) (.inl ⟨rfl, rfl⟩) rfl rfl rfl (fun x K hK => ?_) ?_
      rotate_left
      ·go_big_quiet_op
       exact hK
      refine hoist [] [] (a1 := ?_) 8 rfl (by kernel_rfl) (.inl ⟨rfl, rfl⟩) rfl rfl rfl (fun x K hK => ?_) ?_
      rotate_left
      ·go_big_quiet_op
       exact hK
      refine hoist [] [] (a1 := ?_) 9 rfl (by kernel_rfl) (.inl ⟨rfl, rfl⟩) rfl rfl rfl (fun x K hK => ?_) ?_
      rotate_left
      ·go_big_quiet_op
       exact hK
      refine hoist [] [] (a1 := ?_) 10 rfl (by kernel_rfl) (.inl ⟨rfl, rfl⟩) rfl rfl rfl (fun x K hK => ?_) ?_
      rotate_left
      ·go_big_quiet_op
       exact hK
      refine hoist [] [] (a1 := ?_) 11 rfl (by kernel_rfl) (.inl ⟨rfl, rfl⟩) rfl rfl rfl (fun x K hK => ?_) ?_
      rotate_left
      ·go_big_quiet_op
       exact hK
      refine hoist [] [] (a1 := ?_) 12 rfl (by kernel_rfl) (.inl ⟨rfl, rfl⟩) rfl rfl rfl (fun x K hK => ?_) ?_
      rotate_left
      ·go_big_quiet_op
       exact hK
      refine done (by kernel_rfl) (fun xr => ?_)
      have BF := Lib.hid (B.out.trans xr.bw)
      clear l12 B P
      go_wp2_with fail
      go_ret
      exact ⟨by rw [hF.out]; rfl, BF.out⟩
     have e2 : ((y : Int) == 0) = true := by simp; omega
     have hF : Hid (rb = true) := by show _ = _; rw [hrb3.out]; exact decide_eq_true ⟨h1, h2⟩
     clear h1 h2 hrb3
     refine wp_region_gg [] [] [] (by kernel_rfl) ?_
     refine hoist [] [] (a1 := ?_) 0 rfl (by kernel_rfl) (.inl ⟨rfl, rfl⟩) rfl rfl rfl (fun x K hK => ?_) ?_
     rotate_left
     ·go_big_quiet_op
      exact hK
     refine hoist [] [] (a1 := ?_) 1 rfl (by kernel_rfl) (.inl ⟨rfl, rfl⟩) rfl rfl rfl (fun x K hK => ?_) ?_
     rotate_left
     ·go_big_quiet_op
      exact hK
     refine hoist [] [] (a1 := ?_) 2 rfl (by kernel_rfl) (.inl ⟨rfl, rfl⟩) rfl rfl rfl (fun x K hK => ?_) ?_
     rotate_left
     ·go_big_quiet_op
      exact hK
     refine hoist [] [] (a1 := ?_) 3 rfl (by kernel_rfl) (.inl ⟨rfl, rfl⟩) rfl rfl rfl (fun x K hK => ?_) ?_
     rotate_left
     ·go_big_quiet_op
      exact hK
     refine hoist [] [] (a1 := ?_) 4 rfl (by kernel_rfl) (.inl ⟨rfl, rfl⟩) rfl rfl rfl (fun x K hK => ?_) ?_
     rotate_left
     ·go_big_quiet_op
      exact hK
     refine hoist [] [] (a1 := ?_) 5 rfl (by kernel_rfl) (.inl ⟨rfl, rfl⟩) rfl rfl rfl (fun x K hK => ?_) ?_
     rotate_left
     ·go_big_quiet_op
      exact hK
     refine hoist [] [] (a1 := ?_) 6 rfl (by kernel_rfl) (.inl ⟨rfl, rfl⟩) rfl rfl rfl (fun x K hK => ?_) ?_
     rotate_left
     ·go_big_quiet_op
      exact hK
     refine hoist [] [] (a1 := ?_) 7 rfl (by kernel_rfl) (.inl ⟨rfl, rfl⟩) rfl rfl rfl (fun x K hK => ?_) ?_
     rotate_left
     ·go_big_quiet_op
      exact hK
     refine hoist [] [] (a1 := ?_) 8 rfl (by kernel_rfl) (.inl ⟨rfl, rfl⟩) rfl rfl rfl (fun x K hK => ?_) ?_
     rotate_left
     ·go_big_quiet_op
      exact hK
     refine hoist [] [] (a1 := ?_) 9 rfl (by kernel_rfl) (.inl ⟨rfl, rfl⟩) rfl rfl rfl (fun x K hK => ?_) ?_
     rotate_left
     ·go_big_quiet_op
      exact hK
     refine hoist [] [] (a1 := ?_) 10 rfl (by kernel_rfl) (.inl ⟨rfl, rfl⟩) rfl rfl rfl (fun x K hK => ?_) ?_
     rotate_left
     ·go_big_quiet_op
      exact hK
     refine hoist [] [] (a1 := ?_) 11 rfl (by kernel_rfl) (.inl ⟨rfl, rfl⟩) rfl rfl rfl (fun x K hK => ?_) ?_
     rotate_left
     ·go_big_quiet_op
      exact hK
     refine hoist [] [] (a1 := ?_) 12 rfl (by kernel_rfl) (.inl ⟨rfl, rfl⟩) rfl rfl rfl (fun x K hK => ?_) ?_
     rotate_left
     ·go_big_quiet_op
      exact hK
     refine done (by kernel_rfl) (fun xr => ?_)
     have BF := Lib.hid (B.out.trans xr.bw)
     clear l12 B P
     go_wp2_with fail
     go_ret
     exact ⟨by rw [hF.out]; rfl, BF.out⟩
theorem mostV_no {k : Int} (h : isKind k = false) : mostV k = shA 0 0 0 0 0 false false false false := by
 have := of_decide_eq_false h
 unfold mostV
 repeat (rw [if_neg (by omega)])
set_option maxRecDepth 100000 in
set_option maxHeartbeats 8000000 in
theorem may_none (k : Int) (hk : isKind k = false) (hb : -9223372036854775808 ≤ k ∧ k ≤ 9223372036854775807) (s m t st pk oc : Nat) (ar an as_ al af : Option Addr) (nr nn ns nl nf cr cn cs cl_ cf rt : Nat) (w : World) :
  Calls Try.prog 84 #[.agg #[.int .i64 k, .int .u32 (s : Nat), .int .u32 (m : Nat), .int .u64 (t : Nat), .int .u32 (st : Nat), .int .u32 (pk : Nat), .int .u32 (oc : Nat), .slice ar nr cr, .slice an nn cn, .slice as_ ns cs, .slice al nl cl_, .slice af nf cf, .int .u64 (rt : Nat)]] w fun e w' => e = .returned (.bool false) ∧ BW w w' := by
 have cM := fun wz => Lib.hid (most_ok k hb wz)
 rw [mostV_no hk, hk] at cM
 have BA : BW w (w.alloc (.cells #[.int .i64 k, .int .u32 (s : Nat), .int .u32 (m : Nat), .int .u64 (t : Nat), .int .u32 (st : Nat), .int .u32 (pk : Nat), .int .u32 (oc : Nat), .slice ar nr cr, .slice an nn cn, .slice as_ ns cs, .slice al nl cl_, .slice af nf cf, .int .u64 (rt : Nat)] 111)) := (BW.refl w).alloc
 have P := Lib.hid (HpB.new w (.cells #[.int .i64 k, .int .u32 (s : Nat), .int .u32 (m : Nat), .int .u64 (t : Nat), .int .u32 (st : Nat), .int .u32 (pk : Nat), .int .u32 (oc : Nat), .slice ar nr cr, .slice an nn cn, .slice as_ ns cs, .slice al nl cl_, .slice af nf cf, .int .u64 (rt : Nat)] 111))
 have B := Lib.hid BA
 clear hk hb
 replace BA := Lib.hid BA
 go_enter Try.func84, Try.ntmps84
 go_upto_region 1 with (fail)
 generalize (w.alloc _) = w1 at *
 generalize w.heap.size = g at *
 clear BA
 have z0 := (hp_cell P.out 0).trans (show _ = some (.int .i64 k) from rfl)
 go_wp2_with fail
 refine Calls.mono (cM w1).out ?_
 rintro e w2 ⟨rfl, hb⟩
 replace B := Lib.hid (B.out.trans hb)
 clear hb cM z0 P
 dsimp only
 have BS : BW w2 (w2.alloc (.cells #[.int .i64 0, .int .i64 0, .int .i64 0, .int .i64 0, .int .i64 0, .bool false, .bool false, .bool false, .bool false] 179)) := (BW.refl _).alloc
 replace B := Lib.hid (B.out.trans BS)
 replace BS := Lib.hid BS
 go_wp2_with fail
 go_ret
 exact ⟨rfl, B.out⟩
end Go.Proofs.Ytcempndfbckcaaa

namespace Go.Proofs.Ytcempndfbckcaaa
open Go.RowKit
def mayC (c : Ctl) : Bool :=
 if c.k = 200 then (decide (c.reps.length ≤ 16 ∧ c.nams.length ≤ 0 ∧ c.srcs.length ≤ 0 ∧ c.loss.length ≤ 0 ∧ c.firs.length ≤ 0 ∧ c.m = 0 ∧ c.rt = 0) && !(c.nams.any badN) && !(c.reps.any badR) && rateB c.rt) else
 if c.k = 201 then (decide (c.reps.length ≤ 16 ∧ c.nams.length ≤ 0 ∧ c.srcs.length ≤ 0 ∧ c.loss.length ≤ 0 ∧ c.firs.length ≤ 0 ∧ c.m = 0 ∧ c.t = 0 ∧ c.st = 0 ∧ c.pk = 0 ∧ c.oc = 0 ∧ c.rt = 0) && !(c.nams.any badN) && !(c.reps.any badR) && rateB c.rt) else
 if c.k = 202 then (decide (c.reps.length ≤ 0 ∧ c.nams.length ≤ 16 ∧ c.srcs.length ≤ 0 ∧ c.loss.length ≤ 0 ∧ c.firs.length ≤ 0 ∧ c.s = 0 ∧ c.m = 0 ∧ c.t = 0 ∧ c.st = 0 ∧ c.pk = 0 ∧ c.oc = 0 ∧ c.rt = 0) && !(c.nams.any badN) && !(c.reps.any badR) && rateB c.rt) else
 if c.k = 203 then (decide (c.reps.length ≤ 0 ∧ c.nams.length ≤ 0 ∧ c.srcs.length ≤ 16 ∧ c.loss.length ≤ 0 ∧ c.firs.length ≤ 0 ∧ c.s = 0 ∧ c.m = 0 ∧ c.t = 0 ∧ c.st = 0 ∧ c.pk = 0 ∧ c.oc = 0 ∧ c.rt = 0) && !(c.nams.any badN) && !(c.reps.any badR) && rateB c.rt) else
 if c.k = 1 then (decide (c.reps.length ≤ 0 ∧ c.nams.length ≤ 0 ∧ c.srcs.length ≤ 0 ∧ c.loss.length ≤ 16 ∧ c.firs.length ≤ 0 ∧ c.t = 0 ∧ c.st = 0 ∧ c.pk = 0 ∧ c.oc = 0 ∧ c.rt = 0) && !(decide (c.loss.length = 0)) && !(c.nams.any badN) && !(c.reps.any badR) && rateB c.rt) else
 if c.k = 2 then (decide (c.reps.length ≤ 0 ∧ c.nams.length ≤ 0 ∧ c.srcs.length ≤ 0 ∧ c.loss.length ≤ 0 ∧ c.firs.length ≤ 0 ∧ c.t = 0 ∧ c.st = 0 ∧ c.pk = 0 ∧ c.oc = 0 ∧ c.rt = 0) && !(c.nams.any badN) && !(c.reps.any badR) && rateB c.rt) else
 if c.k = 3 then (decide (c.reps.length ≤ 0 ∧ c.nams.length ≤ 0 ∧ c.srcs.length ≤ 0 ∧ c.loss.length ≤ 0 ∧ c.firs.length ≤ 16 ∧ c.m = 0 ∧ c.t = 0 ∧ c.st = 0 ∧ c.pk = 0 ∧ c.oc = 0 ∧ c.rt = 0) && !(decide (c.firs.length = 0)) && !(c.nams.any badN) && !(c.reps.any badR) && rateB c.rt) else
 if c.k = 4 then (decide (c.reps.length ≤ 0 ∧ c.nams.length ≤ 0 ∧ c.srcs.length ≤ 16 ∧ c.loss.length ≤ 0 ∧ c.firs.length ≤ 0 ∧ c.m = 0 ∧ c.t = 0 ∧ c.st = 0 ∧ c.pk = 0 ∧ c.oc = 0) && !(c.nams.any badN) && !(c.reps.any badR) && rateB c.rt) else
 false
theorem may_ok (c : Ctl) (wf : CtlWf c) (sm : CtlSm c) (vr vn vs vl vf : Value) (w : World) (hR : CtlR w c vr vn vs vl vf) :
  Calls Try.prog 84 #[.agg (ctlC c vr vn vs vl vf).toArray] w fun e w' => e = .returned (.bool (mayC c)) ∧ BW w w' := by
 obtain ⟨k, s, m, t, st, pk, oc, reps, nams, srcs, loss, firs, rt⟩ := c
 obtain ⟨b1, b2, b3, b4, b5, b6, b7, b8, b9, b10, b11, b12, b13⟩ := wf
 obtain ⟨q1, q2, q3, q4, q5, q6⟩ := sm
 obtain ⟨r1, r2, r3, r4, r5⟩ := hR
 obtain ⟨ar, cr, rfl, -, -⟩ := r1.len
 obtain ⟨an, cn, rfl, -, -⟩ := r2.len
 obtain ⟨as_, cs, rfl, -, -⟩ := r3.len
 obtain ⟨al, cl_, rfl, -, -⟩ := r4.len
 obtain ⟨af, cf, rfl, -, -⟩ := r5.len
 dsimp only at *
 by_cases hk : isKind k = true
 ·rcases isKind_cases hk with rfl | rfl | rfl | rfl | rfl | rfl | rfl | rfl
  ·exact may_gen 200 16 0 0 0 0 true false true false _ _ b1 rfl rfl s m t st pk oc ar an as_ al af _ _ _ _ _ cr cn cs cl_ cf rt (fun wz => within_ac 200 16 0 0 0 0 s m t st pk oc ar an as_ al af _ _ _ _ _ cr cn cs cl_ cf rt wz) (fun h => by omega) (fun h => by omega) (fun _ _ => rfl) b8 nams reps (by omega) (by omega) (by omega) (by omega) (by omega) (fun p hp => by have := q6 p hp; omega) w r2 r1
  ·exact may_gen 201 16 0 0 0 0 true false false false _ _ b1 rfl rfl s m t st pk oc ar an as_ al af _ _ _ _ _ cr cn cs cl_ cf rt (fun wz => within_a 201 16 0 0 0 0 s m t st pk oc ar an as_ al af _ _ _ _ _ cr cn cs cl_ cf rt wz) (fun h => by omega) (fun h => by omega) (fun _ _ => rfl) b8 nams reps (by omega) (by omega) (by omega) (by omega) (by omega) (fun p hp => by have := q6 p hp; omega) w r2 r1
  ·exact may_gen 202 0 16 0 0 0 false false false false _ _ b1 rfl rfl s m t st pk oc ar an as_ al af _ _ _ _ _ cr cn cs cl_ cf rt (fun wz => within_o 202 0 16 0 0 0 s m t st pk oc ar an as_ al af _ _ _ _ _ cr cn cs cl_ cf rt wz) (fun h => by omega) (fun h => by omega) (fun _ _ => rfl) b8 nams reps (by omega) (by omega) (by omega) (by omega) (by omega) (fun p hp => by have := q6 p hp; omega) w r2 r1
  ·exact may_gen 203 0 0 16 0 0 false false false false _ _ b1 rfl rfl s m t st pk oc ar an as_ al af _ _ _ _ _ cr cn cs cl_ cf rt (fun wz => within_o 203 0 0 16 0 0 s m t st pk oc ar an as_ al af _ _ _ _ _ cr cn cs cl_ cf rt wz) (fun h => by omega) (fun h => by omega) (fun _ _ => rfl) b8 nams reps (by omega) (by omega) (by omega) (by omega) (by omega) (fun p hp => by have := q6 p hp; omega) w r2 r1
  ·exact may_gen 1 0 0 0 16 0 true true false false _ _ b1 rfl rfl s m t st pk oc ar an as_ al af _ _ _ _ _ cr cn cs cl_ cf rt (fun wz => within_ab 1 0 0 0 16 0 s m t st pk oc ar an as_ al af _ _ _ _ _ cr cn cs cl_ cf rt wz) (fun _ => rfl) (fun h => by omega) (fun h => absurd rfl h) b8 nams reps (by omega) (by omega) (by omega) (by omega) (by omega) (fun p hp => by have := q6 p hp; omega) w r2 r1
  ·exact may_gen 2 0 0 0 0 0 true true false false _ _ b1 rfl rfl s m t st pk oc ar an as_ al af _ _ _ _ _ cr cn cs cl_ cf rt (fun wz => within_ab 2 0 0 0 0 0 s m t st pk oc ar an as_ al af _ _ _ _ _ cr cn cs cl_ cf rt wz) (fun h => by omega) (fun h => by omega) (fun _ _ => rfl) b8 nams reps (by omega) (by omega) (by omega) (by omega) (by omega) (fun p hp => by have := q6 p hp; omega) w r2 r1
  ·exact may_gen 3 0 0 0 0 16 true false false false _ _ b1 rfl rfl s m t st pk oc ar an as_ al af _ _ _ _ _ cr cn cs cl_ cf rt (fun wz => within_a 3 0 0 0 0 16 s m t st pk oc ar an as_ al af _ _ _ _ _ cr cn cs cl_ cf rt wz) (fun h => by omega) (fun _ => rfl) (fun _ h => absurd rfl h) b8 nams reps (by omega) (by omega) (by omega) (by omega) (by omega) (fun p hp => by have := q6 p hp; omega) w r2 r1
  ·exact may_gen 4 0 0 16 0 0 true false false true _ _ b1 rfl rfl s m t st pk oc ar an as_ al af _ _ _ _ _ cr cn cs cl_ cf rt (fun wz => within_ad 4 0 0 16 0 0 s m t st pk oc ar an as_ al af _ _ _ _ _ cr cn cs cl_ cf rt wz) (fun h => by omega) (fun h => by omega) (fun _ _ => rfl) b8 nams reps (by omega) (by omega) (by omega) (by omega) (by omega) (fun p hp => by have := q6 p hp; omega) w r2 r1
 ·have hk2 : isKind k = false := by simpa using hk
  have hn := of_decide_eq_false hk2
  have e : mayC ⟨k, s, m, t, st, pk, oc, reps, nams, srcs, loss, firs, rt⟩ = false := by
   unfold mayC
   dsimp only
   repeat (rw [if_neg (by omega)])
  rw [e]
  exact may_none k hk2 b1 s m t st pk oc ar an as_ al af _ _ _ _ _ cr cn cs cl_ cf rt w
end Go.Proofs.Ytcempndfbckcaaa

namespace Go.Proofs.Ytcempndfbckcaaa
open Go.RowKit
structure CtlsR (w : World) (v : Value) (n : Nat) (L : List Ctl) : Prop where
 len : L.length = n
 sl : ∃ sa cap, v = .slice sa n cap ∧ n ≤ cap ∧ cap ≤ maxLen
 row : ∀ sa cap, v = .slice sa n cap → 0 < n → ∃ g o, sa = some ⟨g, o, none⟩ ∧ g < w.heap.size ∧ ∀ i (_ : i < L.length), ∃ vr vn vs vl vf, (∀ j, j < 13 → w.cell? ⟨g, o + i * 13 + j, none⟩ = (ctlC L[i] vr vn vs vl vf)[j]?) ∧ CtlR w L[i] vr vn vs vl vf
theorem CtlsR.bw {w w' : World} {v : Value} {n : Nat} {L : List Ctl} (h : CtlsR w v n L) (hb : BW w w') : CtlsR w' v n L := by
 refine ⟨h.len, h.sl, fun sa cap hv h0 => ?_⟩
 obtain ⟨g, o, e, hg, hc⟩ := h.row sa cap hv h0
 refine ⟨g, o, e, Nat.lt_of_lt_of_le hg hb.size, fun i hi => ?_⟩
 obtain ⟨vr, vn, vs, vl, vf, h1, h2⟩ := hc i hi
 refine ⟨vr, vn, vs, vl, vf, fun j hj => ?_, h2.bw hb⟩
 have h3 := h1 j hj
 cases hx : (ctlC L[i] vr vn vs vl vf)[j]? with
 | none => rw [List.getElem?_eq_none_iff] at hx; simp [ctlC] at hx; omega
 | some x => rw [hx] at h3; exact hb.cell h3
theorem CtlR.off {w : World} {c : Ctl} {vr vn vs vl vf : Value} (h : CtlR w c vr vn vs vl vf) {g : Nat} (hg : w.heap.size ≤ g) : OffB g c vr vn vs vl vf :=
 ⟨fun h0 k hk => by have := h.r.own h0 k hk; omega, fun h0 k hk => by have := h.n.own h0 k hk; omega, fun h0 k hk => by have := h.s.own h0 k hk; omega, fun h0 k hk => by have := h.l.own h0 k hk; omega, fun h0 k hk => by have := h.f.own h0 k hk; omega⟩
def partB (c : Ctl) : List Nat := ([128 + (hdrW c).2, (hdrW c).1] ++ putB 2 ((bodyW c).length / 4)) ++ bodyW c
def partsB (L : List Ctl) : List Nat := (L.map partB).flatten
def okW (L : List Ctl) : Bool := decide (1 ≤ L.length ∧ L.length ≤ 8) && L.all mayC && decide ((partsB L).length ≤ 1200)
theorem partsB_snoc (l : List Ctl) (k : Nat) (h : k < l.length) : partsB (l.take (k + 1)) = partsB (l.take k) ++ partB (l[k]) := by
 unfold partsB
 rw [List.take_succ_eq_append_getElem h, List.map_append, List.flatten_append]
 simp
theorem may_bnd {c : Ctl} (h : mayC c = true) (sm : CtlSm c) : (hdrW c).2 ≤ 16 ∧ (hdrW c).1 ≤ 206 ∧ (bodyW c).length ≤ 2000 := by
 obtain ⟨k, s, m, t, st, pk, oc, reps, nams, srcs, loss, firs, rt⟩ := c
 have hnam := (namsB_len nams sm.name).2
 unfold mayC at h
 unfold hdrW bodyW
 dsimp only at h hnam ⊢
 by_cases h1 : k = 200
 ·rw [if_pos h1] at h; simp only [if_pos h1]
  simp only [Bool.and_eq_true, decide_eq_true_eq] at h
  simp only [List.length_append, wordsB_len, putB_len, repsB_len, List.length_cons, List.length_nil]; omega
 rw [if_neg h1] at h; simp only [if_neg h1]
 by_cases h2 : k = 201
 ·rw [if_pos h2] at h; simp only [if_pos h2]
  simp only [Bool.and_eq_true, decide_eq_true_eq] at h
  simp only [List.length_append, wordsB_len, putB_len, repsB_len, List.length_cons, List.length_nil]; omega
 rw [if_neg h2] at h; simp only [if_neg h2]
 by_cases h3 : k = 202
 ·rw [if_pos h3] at h; simp only [if_pos h3]
  simp only [Bool.and_eq_true, decide_eq_true_eq] at h
  omega
 rw [if_neg h3] at h; simp only [if_neg h3]
 by_cases h4 : k = 203
 ·rw [if_pos h4] at h; simp only [if_pos h4]
  simp only [Bool.and_eq_true, decide_eq_true_eq] at h
  simp only [wordsB_len]; omega
 rw [if_neg h4] at h; simp only [if_neg h4]
 by_cases h5 : k = 1
 ·rw [if_pos h5] at h; simp only [if_pos h5]
  simp only [Bool.and_eq_true, decide_eq_true_eq] at h
  simp only [List.length_append, wordsB_len, lossB_len, List.length_cons, List.length_nil]; omega
 rw [if_neg h5] at h; simp only [if_neg h5]
 by_cases h6 : k = 2
 ·rw [if_pos h6] at h; simp only [if_pos h6]
  simp only [wordsB_len, List.length_cons, List.length_nil]; omega
 rw [if_neg h6] at h; simp only [if_neg h6]
 by_cases h7 : k = 3
 ·rw [if_pos h7] at h; simp only [if_pos h7]
  simp only [Bool.and_eq_true, decide_eq_true_eq] at h
  simp only [List.length_append, wordsB_len, firB_len, List.length_cons, List.length_nil]; omega
 rw [if_neg h7] at h; simp only [if_neg h7]
 by_cases h8 : k = 4
 ·rw [if_pos h8] at h
  simp only [Bool.and_eq_true, decide_eq_true_eq] at h
  simp only [rembB, List.length_append, wordsB_len, putB_len, List.length_cons, List.length_nil]; omega
 rw [if_neg h8] at h
 cases h
theorem or128 : ∀ k, k < 32 → bits .or .u8 128 ((k : Nat) : Int) = ((128 + k : Nat) : Int) := by decide
inductive WritePost (L : List Ctl) (w : World) (e : Ending) (w' : World) : Prop
 | no (h : okW L = false) (he : e = .returned (.tuple #[.slice none 0 0, .int .i64 1])) (hb : BW w w')
 | yes (h : okW L = true) (s : Option Addr) (c : Nat) (he : e = .returned (.tuple #[.slice s (partsB L).length c, .int .i64 0])) (ho : OB w' w.heap.size 5 (.slice s (partsB L).length c) (partsB L).length (partsB L)) (hb : BW w w')
theorem okW_bad {L : List Ctl} (k : Nat) (h : k < L.length) (hm : mayC (L[k]) = false) : okW L = false := by
 unfold okW
 have : L.all mayC = false := List.all_eq_false.2 ⟨_, List.getElem_mem h, by rw [hm]; simp⟩
 rw [this]
 simp
set_option maxRecDepth 100000 in
set_option maxHeartbeats 8000000 in
theorem write_ok (L : List Ctl) (n : Nat) (v : Value) (hn : n ≤ 1000) (hwf : ∀ c ∈ L, CtlWf c) (hsm : ∀ c ∈ L, CtlSm c) (w : World) (hv : CtlsR w v n L) :
  Calls Try.prog 53 #[v] w (WritePost L w) := by
 obtain ⟨sa, cap, rfl, hc1, hc2⟩ := hv.sl
 unfold maxLen at hc2
 have hxl := hv.len
 by_cases h0 : n = 0
 ·have d1 : ((n : Int) == 0) = true := by simp; omega
  have hF : okW L = false := by unfold okW; rw [decide_eq_false (by omega)]; rfl
  clear hv hwf hsm hxl
  replace hF := Lib.hid hF
  go_enter Try.func53, Try.ntmps53
  go_wp2_with fail
  go_ret2
  exact .no hF.out rfl (BW.refl w)
 have d1 : ((n : Int) == 0) = false := by simp; omega
 by_cases h8 : 8 < n
 ·have d2 : decide ((8 : Int) < (n : Int)) = true := by simp; omega
  have hF : okW L = false := by unfold okW; rw [decide_eq_false (by omega)]; rfl
  clear hv hwf hsm hxl
  replace hF := Lib.hid hF
  go_enter Try.func53, Try.ntmps53
  go_wp2_with fail
  go_ret2
  exact .no hF.out rfl (BW.refl w)
 have d2 : decide ((8 : Int) < (n : Int)) = false := by simp; omega
 have hst := fun k (h : k < L.length) => partsB_snoc L k h
 have hbad := fun k (h : k < L.length) hm => okW_bad k h hm
 have hOK : okW L = (decide (1 ≤ L.length ∧ L.length ≤ 8) && L.all mayC && decide ((partsB L).length ≤ 1200)) := rfl
 rw [decide_eq_true (by omega), Bool.true_and] at hOK
 have hfull : partsB (L.take n) = partsB L := by rw [← hxl, List.take_length]
 have hfulA : (L.take n).all mayC = L.all mayC := by rw [← hxl, List.take_length]
 have hV := Lib.hid hv
 clear hv
 replace hst := Lib.hid hst
 replace hbad := Lib.hid hbad
 replace hOK := Lib.hid hOK
 replace hfull := Lib.hid hfull
 replace hfulA := Lib.hid hfulA
 replace hxl := Lib.hid hxl
 replace hwf := Lib.hid hwf
 replace hsm := Lib.hid hsm
 go_enter Try.func53, Try.ntmps53
 go_upto_region 5 with (fail)
 clear d1 d2
 go_loopg [4, 20] n (fun m' x a wx => ∃ (k m : Nat) (so : Option Addr) (co : Nat), m' = n - k ∧ k ≤ n ∧ a = .int .i64 (k : Nat) ∧ x = .slice so m co ∧ m ≤ co ∧ co ≤ 9223372036854775807 ∧ m ≤ 2004 * k ∧ Hid ((L.take k).all mayC = true) ∧ Hid (OB wx w.heap.size 5 (.slice so m co) m (partsB (L.take k))) ∧ Hid (BW w wx))
 case atStart => exact ⟨0, 0, none, 0, rfl, by omega, rfl, rfl, Nat.le_refl _, by omega, by omega, by show _ = _; simp, Lib.hid (by simpa [partsB] using OB.nil _ _ _), BW.refl _⟩
 case round =>
  obtain ⟨k, m, so, co, rfl, hk, rfl, rfl, hmc, hco, hm, hA, O, B⟩ := hrel
  by_cases hkn : k < n
  ·have d : decide ((k : Int) < (n : Int)) = true := by simp; omega
   have hkl : k < L.length := by rw [hxl.out]; exact hkn
   obtain ⟨b, o, rfl, hb, hcc⟩ := (hV.out.bw B.out).row _ _ rfl (by omega)
   obtain ⟨vr, vn, vs, vl, vf, hce, hR⟩ := hcc k hkl
   have hs1 := hst.out k hkl
   have wf := hwf.out _ (List.getElem_mem hkl)
   have sm := hsm.out _ (List.getElem_mem hkl)
   have hb0 := hbad.out k hkl
   have hnx : (L.take (k + 1)).all mayC = ((L.take k).all mayC && mayC (L[k])) := by rw [List.take_succ_eq_append_getElem hkl, List.all_append]; simp
   obtain ⟨a1, k1, rfl, -, -⟩ := hR.r.len
   obtain ⟨a2, k2, rfl, -, -⟩ := hR.n.len
   obtain ⟨a3, k3, rfl, -, -⟩ := hR.s.len
   obtain ⟨a4, k4, rfl, -, -⟩ := hR.l.len
   obtain ⟨a5, k5, rfl, -, -⟩ := hR.f.len
   clear hcc
   generalize L[k] = c at *
   have hR1 := Lib.hid hR
   have cM := fun wz (h : BW wr wz) => Lib.hid (may_ok c wf sm _ _ _ _ _ wz (hR1.out.bw h))
   have bnd := fun h => may_bnd (c := c) h sm
   have hPB : partB c = ([128 + (hdrW c).2, (hdrW c).1] ++ putB 2 ((bodyW c).length / 4)) ++ bodyW c := rfl
   have cB := fun (hq : mayC c = true) wz g (h : BW wr wz) (hg : HpB wz g (.cells #[.slice none 0 0] 152)) (hgs : wr.heap.size ≤ g) => Lib.hid (body_ok c (by
    unfold isKind
    refine decide_eq_true ?_
    refine Decidable.byContradiction fun hno => ?_
    unfold mayC at hq
    repeat (rw [if_neg (by omega)] at hq)
    cases hq) wf sm _ _ _ _ _ g wz hg (hR1.out.bw h) (hR1.out.off hgs))
   generalize hdrW c = hd at *
   generalize bodyW c = bw at *
   generalize partB c = pb at *
   generalize hmc0 : mayC c = mc at *
   obtain ⟨ck, cs, cm, ct, cst, cpk, coc, reps, nams, srcs, loss, firs, crt⟩ := c
   dsimp only at hce cM cB
   clear hR hR1 wf sm hmc0
   generalize reps.length = nr at *
   generalize nams.length = nn at *
   generalize srcs.length = ns at *
   generalize loss.length = nl at *
   generalize firs.length = nf at *
   have y0 : wr.cell? ⟨b, o + k * 13, none⟩ = some (.int .i64 ck) := hce 0 (by decide)
   have y1 : wr.cell? ⟨b, o + k * 13 + 1, none⟩ = some (.int .u32 (cs : Nat)) := hce 1 (by decide)
   have y2 : wr.cell? ⟨b, o + k * 13 + 2, none⟩ = some (.int .u32 (cm : Nat)) := hce 2 (by decide)
   have y3 : wr.cell? ⟨b, o + k * 13 + 3, none⟩ = some (.int .u64 (ct : Nat)) := hce 3 (by decide)
   have y4 : wr.cell? ⟨b, o + k * 13 + 4, none⟩ = some (.int .u32 (cst : Nat)) := hce 4 (by decide)
   have y5 : wr.cell? ⟨b, o + k * 13 + 5, none⟩ = some (.int .u32 (cpk : Nat)) := hce 5 (by decide)
   have y6 : wr.cell? ⟨b, o + k * 13 + 6, none⟩ = some (.int .u32 (coc : Nat)) := hce 6 (by decide)
   have y7 : wr.cell? ⟨b, o + k * 13 + 7, none⟩ = some (.slice a1 nr k1) := hce 7 (by decide)
   have y8 : wr.cell? ⟨b, o + k * 13 + 8, none⟩ = some (.slice a2 nn k2) := hce 8 (by decide)
   have y9 : wr.cell? ⟨b, o + k * 13 + 9, none⟩ = some (.slice a3 ns k3) := hce 9 (by decide)
   have y10 : wr.cell? ⟨b, o + k * 13 + 10, none⟩ = some (.slice a4 nl k4) := hce 10 (by decide)
   have y11 : wr.cell? ⟨b, o + k * 13 + 11, none⟩ = some (.slice a5 nf k5) := hce 11 (by decide)
   have y12 : wr.cell? ⟨b, o + k * 13 + 12, none⟩ = some (.int .u64 (crt : Nat)) := hce 12 (by decide)
   clear hce
   have BA : BW wr (wr.alloc (.cells #[.int .i64 ck, .int .u32 (cs : Nat), .int .u32 (cm : Nat), .int .u64 (ct : Nat), .int .u32 (cst : Nat), .int .u32 (cpk : Nat), .int .u32 (coc : Nat), .slice a1 nr k1, .slice a2 nn k2, .slice a3 ns k3, .slice a4 nl k4, .slice a5 nf k5, .int .u64 (crt : Nat)] 111)) := (BW.refl wr).alloc
   have P := Lib.hid (HpB.new wr (.cells #[.int .i64 ck, .int .u32 (cs : Nat), .int .u32 (cm : Nat), .int .u64 (ct : Nat), .int .u32 (cst : Nat), .int .u32 (cpk : Nat), .int .u32 (coc : Nat), .slice a1 nr k1, .slice a2 nn k2, .slice a3 ns k3, .slice a4 nl k4, .slice a5 nf k5, .int .u64 (crt : Nat)] 111))
   have BR := Lib.hid BA
   replace BA := Lib.hid BA
   replace hnx := Lib.hid hnx
   replace hs1 := Lib.hid hs1
   replace hb0 := Lib.hid hb0
   replace hPB := Lib.hid hPB
   replace bnd := Lib.hid bnd
   go_upto_region 7 with (fail)
   clear y0 y1 y2 y3 y4 y5 y6 y7 y8 y9 y10 y11 y12
   generalize (wr.alloc _) = w1 at *
   generalize hgp : wr.heap.size = gp at *
   clear BA
   replace hgp := Lib.hid hgp
   have z0 := hp_cell (P.out) 0
   have z1 := hp_cell (P.out) 1
   have z2 := hp_cell (P.out) 2
   have z3 := hp_cell (P.out) 3
   have z4 := hp_cell (P.out) 4
   have z5 := hp_cell (P.out) 5
   have z6 := hp_cell (P.out) 6
   have z7 := hp_cell (P.out) 7
   have z8 := hp_cell (P.out) 8
   have z9 := hp_cell (P.out) 9
   have z10 := hp_cell (P.out) 10
   have z11 := hp_cell (P.out) 11
   have z12 := hp_cell (P.out) 12
   simp only [List.getElem?_toArray, List.getElem?_cons_zero, List.getElem?_cons_succ] at z0 z1 z2 z3 z4 z5 z6 z7 z8 z9 z10 z11 z12
   go_wp2_with fail
   refine Calls.mono (cM w1 BR.out).out ?_
   rintro e w2 ⟨rfl, hb2⟩
   replace P := Lib.hid (P.out.bw hb2)
   replace BR := Lib.hid (BR.out.trans hb2)
   clear hb2 cM
   clear z0 z1 z2 z3 z4 z5 z6 z7 z8 z9 z10 z11 z12
   dsimp only
   cases mc with
   | false =>
    have hF := hb0.out rfl
    have BF := Lib.hid (B.out.trans BR.out)
    clear bnd cB hb0 hnx hs1 hPB O B P BR hA
    replace hF := Lib.hid hF
    go_wp2_with fail
    go_ret2
    exact .no hF.out rfl BF.out
   | true =>
    obtain ⟨typ, cnt⟩ := hd
    obtain ⟨q1, q2, q3⟩ := bnd.out rfl
    dsimp only at q1 q2
    have eor := or128 cnt (by omega)
    have hq1 : (cnt : Int) ≤ 16 := by omega
    have hq2 : (typ : Int) ≤ 206 := by omega
    have hby : Hid (128 + cnt < 256 ∧ typ < 256) := by show _ ∧ _; omega
    have hPB2 := hPB.out
    dsimp only at hPB2
    generalize 128 + cnt = h1 at *
    have hlo : Hid (∀ j ∈ (Value.slice so m co).ownBlock.toList, w.heap.size ≤ j ∧ j < gp) := fun j hj => ⟨O.out.ge' j (by simpa using hj), by have := O.out.lt' j (by simpa using hj); have := hgp.out; omega⟩
    clear bnd q1 q2 hPB hb0
    replace hPB2 := Lib.hid hPB2
    have BG : BW w2 (w2.alloc (.cells #[.slice none 0 0] 152)) := (BW.refl w2).alloc
    have V := Lib.hid (HpB.new w2 (.cells #[.slice none 0 0] 152))
    replace P := Lib.hid (P.out.bw BG)
    have B2 := Lib.hid BR.out.size
    replace BR := Lib.hid (BR.out.trans BG)
    replace BG := Lib.hid BG
    go_upto_region 10 with (fail)
    generalize (w2.alloc _) = w3 at *
    generalize hgw : w2.heap.size = gw at *
    clear BG
    have hgg : Hid (gp ≤ gw ∧ gw < w3.heap.size) := by have := B2.out; have := hgp.out; have := V.out.lt; show _ ∧ _; omega
    have cB1 := cB rfl w3 gw BR.out V.out hgg.out.1
    clear cB
    have z0 := hp_cell (P.out) 0
    have z1 := hp_cell (P.out) 1
    have z2 := hp_cell (P.out) 2
    have z3 := hp_cell (P.out) 3
    have z4 := hp_cell (P.out) 4
    have z5 := hp_cell (P.out) 5
    have z6 := hp_cell (P.out) 6
    have z7 := hp_cell (P.out) 7
    have z8 := hp_cell (P.out) 8
    have z9 := hp_cell (P.out) 9
    have z10 := hp_cell (P.out) 10
    have z11 := hp_cell (P.out) 11
    have z12 := hp_cell (P.out) 12
    simp only [List.getElem?_toArray, List.getElem?_cons_zero, List.getElem?_cons_succ] at z0 z1 z2 z3 z4 z5 z6 z7 z8 z9 z10 z11 z12
    replace hgw := Lib.hid hgw
    go_wp2_with fail
    refine Calls.mono cB1.out ?_
    rintro e w4 ⟨rfl, V4, T4⟩
    have B4 := Lib.hid (BR.out.stP T4 (fun j hj => by obtain rfl : j = gw := (by simpa using hj); have := hgg.out; have := hgp.out; omega))
    have O4 := Lib.hid (O.out.bw B4.out)
    have B5 := Lib.hid (B.out.trans B4.out)
    obtain ⟨s6, c6, H6, O6⟩ := V4
    generalize hbl : bw.length = bl at *
    have hng : Hid (∀ j ∈ (Value.slice so m co).ownBlock.toList, w.heap.size ≤ j ∧ j ≠ gw ∧ j < w3.heap.size) := fun j hj => by
     have := hlo.out j hj
     have := hgg.out
     exact ⟨by omega, by omega, by omega⟩
    replace H6 := Lib.hid H6
    replace O6 := Lib.hid O6
    replace hbl := Lib.hid hbl
    clear T4 cB1 P BR V O B hlo B4
    clear z0 z1 z2 z3 z4 z5 z6 z7 z8 z9 z10 z11 z12
    dsimp only
    have L5 := Lib.hid (AvB.new w4 5 [h1, typ])
    have X5 := Lib.hid (L5.out.sb (by intro x hx; simp at hx; have := hby.out; omega) 2 rfl (by decide))
    go_upto_region 12 with (at_builtin; go_must (refine wpList_apOB rfl _ _ rfl w.heap.size _ _ _ rfl ((O4.out.bw ((BW.refl w4).alloc))) _ rfl _ _ (X5.out) (by omega) (BW.trans B5.out (by repeat (first | exact BW.refl _ | apply BW.alloc | apply BW.drewN | apply BW.drew))).size ?_; intro s5 c5 w5 hcc5 hmc5 O5 hT hb hG; unfold maxLen at hmc5; replace hG := Lib.hid hG; replace hT := Lib.hid hT; skip))
    replace B5 := Lib.hid (BW.step (BW.trans B5.out (by repeat (first | exact BW.refl _ | apply BW.alloc | apply BW.drewN | apply BW.drew))) hb (Nat.le_refl _))
    replace O5 := Lib.hid O5
    clear hb
    have hb5 : Still (Value.slice so m co).ownBlock.toList _ w5 := hT.out
    have H7 := Lib.hid ((H6.out.bw ((BW.refl w4).alloc (o := .cells (ivA .u8 [h1, typ]) 5))).st hb5 (fun hm => (hng.out gw hm).2.1 rfl))
    have O7 := Lib.hid ((O6.out.bw ((BW.refl w4).alloc (o := .cells (ivA .u8 [h1, typ]) 5))).still hb5 (fun j hj hm => by have := O6.out.ge' j hj; have := (hng.out j hm).2.2; omega))
    clear hT hG X5 L5 hb5 H6 O6 O4 hng
    have l0 : ∀ y : LaterS [] w5, y.now.cell? ⟨gw, 0, none⟩ = some (.slice s6 bl c6) := fun y => (hp_cell (H7.out.bw y.bw) 0).trans rfl
    have eq4 : (bl : Int) / 4 = ((bl / 4 : Nat) : Int) := by omega
    have cP := fun wz (h : BW w5 wz) => Lib.hid (put_ok (.slice s5 (m + 2) c5) (m + 2) _ 2 (bl / 4) 2 (by decide) (by decide) rfl (by omega) (by omega) wz (O5.out.bw h).sb)
    have hbl2 : (bl : Int) ≤ 2000 := by omega
    generalize bl / 4 = q at *
    have hq4 : (q : Int) ≤ 500 := by omega
    have hl5 := O5.out.len
    obtain ⟨_, _, he5, hc5, hm5⟩ := hl5
    cases he5
    unfold maxLen at hm5
    obtain ⟨_, _, he7, hc7, hm7⟩ := O7.out.len
    cases he7
    unfold maxLen at hm7
    clear H7 O5
    refine wp_region_gg [] [] [13] (by kernel_rfl) ?_
    refine hoist [] [] (a1 := ?_) 0 rfl (by kernel_rfl) (.inl ⟨rfl, rfl⟩) rfl rfl rfl (fun x K hK => ?_) ?_
    rotate_left
    ·go_big_quiet_op
     exact hK
    refine hoist [] [] (a1 := ?_) 1 rfl (by kernel_rfl) (.inl ⟨rfl, rfl⟩) rfl rfl rfl (fun x K hK => ?_) ?_
    rotate_left
    ·go_big_quiet_op
     exact hK
    refine hoist [] [] (a1 := ?_) 2 rfl (by kernel_rfl) (.inl ⟨rfl, rfl⟩) rfl rfl rfl (fun x K hK => ?_) ?_
    rotate_left
    ·go_big_quiet_op
     exact hK
    refine hoist [] [] (a1 := ?_) 3 rfl (by kernel_rfl) (.inl ⟨rfl, rfl⟩) rfl rfl rfl (fun x K hK => ?_) ?_
    rotate_left
    ·go_big_quiet_op
     exact hK
    refine hoist [] [] (a1 := ?_) 4 rfl (by kernel_rfl) (.inl ⟨rfl, rfl⟩) rfl rfl rfl (fun x K hK => ?_) ?_
    rotate_left
    ·go_big_quiet_op
     exact hK
    refine hoist [] [] (a1 := ?_) 5 rfl (by kernel_rfl) (.inl ⟨rfl, rfl⟩) rfl rfl rfl (fun x K hK => ?_) ?_
    rotate_left
    ·go_big_quiet_op
     exact hK
    refine hoist [] [] (a1 := ?_) 6 rfl (by kernel_rfl) (.inl ⟨rfl, rfl⟩) rfl rfl rfl (fun x K hK => ?_) ?_
    rotate_left
    ·go_big_quiet_op
     exact hK
    refine hoist [] [] (a1 := ?_) 7 rfl (by kernel_rfl) (.inl ⟨rfl, rfl⟩) rfl rfl rfl (fun x K hK => ?_) ?_
    rotate_left
    ·go_big_quiet_op
     exact hK
    refine hoist [] [] (a1 := ?_) 9 rfl (by kernel_rfl) (.inl ⟨rfl, rfl⟩) rfl rfl rfl (fun x K hK => ?_) ?_
    rotate_left
    ·go_big_quiet_op
     exact hK
    refine hoist [] [] (a1 := ?_) 10 rfl (by kernel_rfl) (.inl ⟨rfl, rfl⟩) rfl rfl rfl (fun x K hK => ?_) ?_
    rotate_left
    ·go_big_quiet_op
     exact hK
    refine hoist [] [] (a1 := ?_) 11 rfl (by kernel_rfl) (.inl ⟨rfl, rfl⟩) rfl rfl rfl (fun x K hK => ?_) ?_
    rotate_left
    ·go_big_quiet_op
     exact hK
    refine hoist [] [] (a1 := ?_) 12 rfl (by kernel_rfl) (.inl ⟨rfl, rfl⟩) rfl rfl rfl (fun x K hK => ?_) ?_
    rotate_left
    ·go_big_quiet_op
     exact hK
    refine effect 8 rfl (by kernel_rfl) (by kernel_rfl) rfl (fun x8 K hK => ?_)
    go_simp
    refine Calls.mono (cP x8.now x8.bw).out ?_
    rintro e w7 ⟨v7, rfl, O8, hb⟩
    obtain ⟨s7, c7, rfl, h7, m7⟩ := O8.len
    unfold maxLen at m7
    refine hK _ _ (Still.of_below hb) ?_
    clear hK K
    have hb7 := Lib.hid (x8.bw.call hb)
    replace O8 := Lib.hid (O8.up (base' := w.heap.size) (by have := B5.out.size; have := x8.bw.size; omega))
    have l0 : ∀ y : LaterS [] w7, y.now.cell? ⟨gw, 0, none⟩ = some (.slice s6 bl c6) := fun y => y.bw.cell (l0 ⟨w7, hb7.out.still []⟩)
    clear hb cP
    try simp only [Act.put, List.setIfInBounds_toArray, List.set_cons_succ, List.set_cons_zero]
    refine tail 13 rfl (by kernel_rfl) rfl (fun xr => ?_)
    simp only [List.drop_succ_cons, List.drop_zero]
    have hb8 := Lib.hid (hb7.out.trans xr.bw)
    replace O8 := Lib.hid (O8.out.bw xr.bw)
    replace O7 := Lib.hid (O7.out.bw hb8.out)
    replace B5 := Lib.hid (B5.out.trans hb8.out)
    clear hb7 hb8 l0
    generalize xr.now = w8 at *
    have hm20 : m ≤ 16032 := by omega
    have hbl20 : bl ≤ 2000 := by omega
    go_upto_region 13 with (at_builtin; go_must (refine wpList_apOB rfl _ _ rfl w.heap.size _ _ _ rfl (O8.out) _ rfl _ _ (O7.out.sb) (by omega) (BW.trans B5.out (by repeat (first | exact BW.refl _ | apply BW.alloc | apply BW.drewN | apply BW.drew))).size ?_; intro s9 c9 w9 hcc9 hmc9 O9 hT hb hG; unfold maxLen at hmc9; replace hG := Lib.hid hG; replace hT := Lib.hid hT; skip))
    replace B5 := Lib.hid (BW.step (BW.trans B5.out (by repeat (first | exact BW.refl _ | apply BW.alloc | apply BW.drewN | apply BW.drew))) hb (Nat.le_refl _))
    replace O9 := Lib.hid O9
    clear hb
    have hfin : Hid (partsB (L.take (k + 1)) = (((partsB (L.take k) ++ [h1, typ]) ++ putB 2 q) ++ bw)) := by
     show _ = _
     rw [hs1.out, hPB2.out]
     simp only [List.append_assoc]
    have hA2 : Hid ((L.take (k + 1)).all mayC = true) := by show _ = _; rw [hnx.out, hA.out]; rfl
    clear hT hG O7 O8 hs1 hPB2 hnx hA
    go_wp2_with fail
    go_roundg (n - (k + 1))
    case measure => omega
    case rel => exact ⟨k + 1, m + 2 + 2 + bl, s9, c9, rfl, by omega, by push_cast; rfl, rfl, by omega, by omega, by omega, hA2, Lib.hid (by rw [hfin.out]; exact O9.out), B5⟩
  ·obtain rfl : k = n := by omega
   have d : decide ((k : Int) < (k : Int)) = false := by simp
   have hO := O.out
   rw [hfull.out] at hO
   have hml := hO.1
   have hAll : L.all mayC = true := by rw [← hfulA.out]; exact hA.out
   have hR := hOK.out
   rw [hAll, Bool.true_and, hml] at hR
   replace hR := Lib.hid hR
   replace hO := Lib.hid hO
   replace hml := Lib.hid hml
   clear O hA
   by_cases h12 : 1200 < m
   ·have dm : decide ((1200 : Int) < (m : Int)) = true := by simp; omega
    have hF : Hid (okW L = false) := by show _ = _; rw [hR.out]; exact decide_eq_false (by omega)
    clear hR
    go_wp2_with fail
    go_ret2
    exact .no hF.out rfl B.out
   ·have dm : decide ((1200 : Int) < (m : Int)) = false := by simp; omega
    have hF : Hid (okW L = true) := by show _ = _; rw [hR.out]; exact decide_eq_true (by omega)
    clear hR
    go_wp2_with fail
    go_ret2
    refine .yes hF.out so co ?_ ?_ B.out
    ·rw [hml.out]; rfl
    ·rw [hml.out]; exact hO.out
end Go.Proofs.Ytcempndfbckcaaa
