/- rtcp.within: has a packet no more than its kind shows? No condition. rtcp.may: is there a name that isn't one, or a loss that is too much? No condition but the sizes'. -/
import Derived.Test.YtcempndfbckcaaaGX0
import Derived.Test.YtcempndfbckcaaaGX1
import Derived.Test.YtcempndfbckcaaaRcNp
namespace Go.Proofs.Ytcempndfbckcaaa
open Go.RowKit
set_option maxRecDepth 100000 in
set_option maxHeartbeats 8000000 in
theorem within_a (k : Int) (R1 R2 R3 R4 R5 s m t st pk oc : Nat) (ar an as_ al af : Option Addr) (nr nn ns nl nf cr cn cs cl_ cf rt : Nat) (w : World) :
  Calls Try.prog 107 #[.agg #[.int .i64 k, .int .u32 (s : Nat), .int .u32 (m : Nat), .int .u64 (t : Nat), .int .u32 (st : Nat), .int .u32 (pk : Nat), .int .u32 (oc : Nat), .slice ar nr cr, .slice an nn cn, .slice as_ ns cs, .slice al nl cl_, .slice af nf cf, .int .u64 (rt : Nat)], .agg #[.int .i64 (R1 : Nat), .int .i64 (R2 : Nat), .int .i64 (R3 : Nat), .int .i64 (R4 : Nat), .int .i64 (R5 : Nat), .bool true, .bool false, .bool false, .bool false]] w fun e w' => e = .returned (.bool (decide (nr ≤ R1 ∧ nn ≤ R2 ∧ ns ≤ R3 ∧ nl ≤ R4 ∧ nf ≤ R5 ∧ m = 0 ∧ t = 0 ∧ st = 0 ∧ pk = 0 ∧ oc = 0 ∧ rt = 0))) ∧ BW w w' := by
 have BA : BW w ((w.alloc (.cells #[.int .i64 k, .int .u32 (s : Nat), .int .u32 (m : Nat), .int .u64 (t : Nat), .int .u32 (st : Nat), .int .u32 (pk : Nat), .int .u32 (oc : Nat), .slice ar nr cr, .slice an nn cn, .slice as_ ns cs, .slice al nl cl_, .slice af nf cf, .int .u64 (rt : Nat)] 111)).alloc (.cells #[.int .i64 (R1 : Nat), .int .i64 (R2 : Nat), .int .i64 (R3 : Nat), .int .i64 (R4 : Nat), .int .i64 (R5 : Nat), .bool true, .bool false, .bool false, .bool false] 179)) := ((BW.refl w).alloc).alloc
 have P := Lib.hid ((HpB.new w (.cells #[.int .i64 k, .int .u32 (s : Nat), .int .u32 (m : Nat), .int .u64 (t : Nat), .int .u32 (st : Nat), .int .u32 (pk : Nat), .int .u32 (oc : Nat), .slice ar nr cr, .slice an nn cn, .slice as_ ns cs, .slice al nl cl_, .slice af nf cf, .int .u64 (rt : Nat)] 111)).bw ((BW.refl _).alloc (o := .cells #[.int .i64 (R1 : Nat), .int .i64 (R2 : Nat), .int .i64 (R3 : Nat), .int .i64 (R4 : Nat), .int .i64 (R5 : Nat), .bool true, .bool false, .bool false, .bool false] 179)))
 have Y := Lib.hid (show HpB _ (w.heap.size + 1) _ from hp_new (w.alloc (.cells #[.int .i64 k, .int .u32 (s : Nat), .int .u32 (m : Nat), .int .u64 (t : Nat), .int .u32 (st : Nat), .int .u32 (pk : Nat), .int .u32 (oc : Nat), .slice ar nr cr, .slice an nn cn, .slice as_ ns cs, .slice al nl cl_, .slice af nf cf, .int .u64 (rt : Nat)] 111)) (.cells #[.int .i64 (R1 : Nat), .int .i64 (R2 : Nat), .int .i64 (R3 : Nat), .int .i64 (R4 : Nat), .int .i64 (R5 : Nat), .bool true, .bool false, .bool false, .bool false] 179) (w.heap.size + 1) (by simp))
 have B := Lib.hid BA
 replace BA := Lib.hid BA
 go_enter Try.func107, Try.ntmps107
 go_upto_region 1 with (fail)
 generalize ((w.alloc _).alloc _) = w1 at *
 clear BA
 have z0 := hp_cell (P.out) 0
 have z1 := hp_cell (P.out) 1
 have z2 := hp_cell (P.out) 2
 have z3 := hp_cell (P.out) 3
 have z4 := hp_cell (P.out) 4
 have z5 := hp_cell (P.out) 5
 have z6 := hp_cell (P.out) 6
 have z7 := hp_cell (P.out) 7
 have z8 := hp_cell (P.out) 8
 have z9 := hp_cell (P.out) 9
 have z10 := hp_cell (P.out) 10
 have z11 := hp_cell (P.out) 11
 have z12 := hp_cell (P.out) 12
 simp only [List.getElem?_toArray, List.getElem?_cons_zero, List.getElem?_cons_succ] at z0 z1 z2 z3 z4 z5 z6 z7 z8 z9 z10 z11 z12
 have k0 := hp_cell (Y.out) 0
 have k1 := hp_cell (Y.out) 1
 have k2 := hp_cell (Y.out) 2
 have k3 := hp_cell (Y.out) 3
 have k4 := hp_cell (Y.out) 4
 have k5 := hp_cell (Y.out) 5
 have k6 := hp_cell (Y.out) 6
 have k7 := hp_cell (Y.out) 7
 have k8 := hp_cell (Y.out) 8
 simp only [List.getElem?_toArray, List.getElem?_cons_zero, List.getElem?_cons_succ] at k0 k1 k2 k3 k4 k5 k6 k7 k8
 clear P Y
 by_cases h0 : R1 < nr
 ·have d0 : decide ((R1 : Int) < (nr : Int)) = true := by simp; omega
  go_wp2_with fail
  go_ret
  exact ⟨congrArg (fun z => Ending.returned (.bool z)) (Eq.symm (decide_eq_false (by omega))), B.out⟩
 have d0 : decide ((R1 : Int) < (nr : Int)) = false := by simp; omega
 by_cases h1 : R2 < nn
 ·have d1 : decide ((R2 : Int) < (nn : Int)) = true := by simp; omega
  go_wp2_with fail
  go_ret
  exact ⟨congrArg (fun z => Ending.returned (.bool z)) (Eq.symm (decide_eq_false (by omega))), B.out⟩
 have d1 : decide ((R2 : Int) < (nn : Int)) = false := by simp; omega
 by_cases h2 : R3 < ns
 ·have d2 : decide ((R3 : Int) < (ns : Int)) = true := by simp; omega
  go_wp2_with fail
  go_ret
  exact ⟨congrArg (fun z => Ending.returned (.bool z)) (Eq.symm (decide_eq_false (by omega))), B.out⟩
 have d2 : decide ((R3 : Int) < (ns : Int)) = false := by simp; omega
 by_cases h3 : R4 < nl
 ·have d3 : decide ((R4 : Int) < (nl : Int)) = true := by simp; omega
  go_wp2_with fail
  go_ret
  exact ⟨congrArg (fun z => Ending.returned (.bool z)) (Eq.symm (decide_eq_false (by omega))), B.out⟩
 have d3 : decide ((R4 : Int) < (nl : Int)) = false := by simp; omega
 by_cases h4 : R5 < nf
 ·have d4 : decide ((R5 : Int) < (nf : Int)) = true := by simp; omega
  go_wp2_with fail
  go_ret
  exact ⟨congrArg (fun z => Ending.returned (.bool z)) (Eq.symm (decide_eq_false (by omega))), B.out⟩
 have d4 : decide ((R5 : Int) < (nf : Int)) = false := by simp; omega
 go_upto_region 3 with (fail)
 by_cases g0 : t = 0
 rotate_left
 ·have e0 : ((t : Int) != 0) = true := by simp; omega
  go_upto_region 4 with (fail)
  by_cases f1 : m = 0
  rotate_left
  ·have q1 : ((m : Int) == 0) = false := by simp; omega
   go_wp2_with fail
   go_ret
   exact ⟨congrArg (fun z => Ending.returned (.bool z)) (Eq.symm (decide_eq_false (by omega))), B.out⟩
  have q1 : ((m : Int) == 0) = true := by simp; omega
  go_wp2_with fail
  go_ret
  exact ⟨congrArg (fun z => Ending.returned (.bool z)) (Eq.symm (decide_eq_false (by omega))), B.out⟩
 have e0 : ((t : Int) != 0) = false := by simp; omega
 by_cases g1 : st = 0
 rotate_left
 ·have e1 : ((st : Int) != 0) = true := by simp; omega
  go_upto_region 4 with (fail)
  by_cases f1 : m = 0
  rotate_left
  ·have q1 : ((m : Int) == 0) = false := by simp; omega
   go_wp2_with fail
   go_ret
   exact ⟨congrArg (fun z => Ending.returned (.bool z)) (Eq.symm (decide_eq_false (by omega))), B.out⟩
  have q1 : ((m : Int) == 0) = true := by simp; omega
  go_wp2_with fail
  go_ret
  exact ⟨congrArg (fun z => Ending.returned (.bool z)) (Eq.symm (decide_eq_false (by omega))), B.out⟩
 have e1 : ((st : Int) != 0) = false := by simp; omega
 by_cases g2 : pk = 0
 rotate_left
 ·have e2 : ((pk : Int) != 0) = true := by simp; omega
  go_upto_region 4 with (fail)
  by_cases f1 : m = 0
  rotate_left
  ·have q1 : ((m : Int) == 0) = false := by simp; omega
   go_wp2_with fail
   go_ret
   exact ⟨congrArg (fun z => Ending.returned (.bool z)) (Eq.symm (decide_eq_false (by omega))), B.out⟩
  have q1 : ((m : Int) == 0) = true := by simp; omega
  go_wp2_with fail
  go_ret
  exact ⟨congrArg (fun z => Ending.returned (.bool z)) (Eq.symm (decide_eq_false (by omega))), B.out⟩
 have e2 : ((pk : Int) != 0) = false := by simp; omega
 by_cases g3 : oc = 0
 rotate_left
 ·have e3 : ((oc : Int) != 0) = true := by simp; omega
  go_upto_region 4 with (fail)
  by_cases f1 : m = 0
  rotate_left
  ·have q1 : ((m : Int) == 0) = false := by simp; omega
   go_wp2_with fail
   go_ret
   exact ⟨congrArg (fun z => Ending.returned (.bool z)) (Eq.symm (decide_eq_false (by omega))), B.out⟩
  have q1 : ((m : Int) == 0) = true := by simp; omega
  go_wp2_with fail
  go_ret
  exact ⟨congrArg (fun z => Ending.returned (.bool z)) (Eq.symm (decide_eq_false (by omega))), B.out⟩
 have e3 : ((oc : Int) != 0) = false := by simp; omega
 go_upto_region 4 with (fail)
 by_cases f1 : m = 0
 rotate_left
 ·have q1 : ((m : Int) == 0) = false := by simp; omega
  go_wp2_with fail
  go_ret
  exact ⟨congrArg (fun z => Ending.returned (.bool z)) (Eq.symm (decide_eq_false (by omega))), B.out⟩
 have q1 : ((m : Int) == 0) = true := by simp; omega
 by_cases f3 : rt = 0
 rotate_left
 ·have q3 : ((rt : Int) == 0) = false := by simp; omega
  go_wp2_with fail
  go_ret
  exact ⟨congrArg (fun z => Ending.returned (.bool z)) (Eq.symm (decide_eq_false (by omega))), B.out⟩
 have q3 : ((rt : Int) == 0) = true := by simp; omega
 go_wp2_with fail
 go_ret
 exact ⟨congrArg (fun z => Ending.returned (.bool z)) (Eq.symm (decide_eq_true (by omega))), B.out⟩
set_option maxRecDepth 100000 in
set_option maxHeartbeats 8000000 in
theorem within_ac (k : Int) (R1 R2 R3 R4 R5 s m t st pk oc : Nat) (ar an as_ al af : Option Addr) (nr nn ns nl nf cr cn cs cl_ cf rt : Nat) (w : World) :
  Calls Try.prog 107 #[.agg #[.int .i64 k, .int .u32 (s : Nat), .int .u32 (m : Nat), .int .u64 (t : Nat), .int .u32 (st : Nat), .int .u32 (pk : Nat), .int .u32 (oc : Nat), .slice ar nr cr, .slice an nn cn, .slice as_ ns cs, .slice al nl cl_, .slice af nf cf, .int .u64 (rt : Nat)], .agg #[.int .i64 (R1 : Nat), .int .i64 (R2 : Nat), .int .i64 (R3 : Nat), .int .i64 (R4 : Nat), .int .i64 (R5 : Nat), .bool true, .bool false, .bool true, .bool false]] w fun e w' => e = .returned (.bool (decide (nr ≤ R1 ∧ nn ≤ R2 ∧ ns ≤ R3 ∧ nl ≤ R4 ∧ nf ≤ R5 ∧ m = 0 ∧ rt = 0))) ∧ BW w w' := by
 have BA : BW w ((w.alloc (.cells #[.int .i64 k, .int .u32 (s : Nat), .int .u32 (m : Nat), .int .u64 (t : Nat), .int .u32 (st : Nat), .int .u32 (pk : Nat), .int .u32 (oc : Nat), .slice ar nr cr, .slice an nn cn, .slice as_ ns cs, .slice al nl cl_, .slice af nf cf, .int .u64 (rt : Nat)] 111)).alloc (.cells #[.int .i64 (R1 : Nat), .int .i64 (R2 : Nat), .int .i64 (R3 : Nat), .int .i64 (R4 : Nat), .int .i64 (R5 : Nat), .bool true, .bool false, .bool true, .bool false] 179)) := ((BW.refl w).alloc).alloc
 have P := Lib.hid ((HpB.new w (.cells #[.int .i64 k, .int .u32 (s : Nat), .int .u32 (m : Nat), .int .u64 (t : Nat), .int .u32 (st : Nat), .int .u32 (pk : Nat), .int .u32 (oc : Nat), .slice ar nr cr, .slice an nn cn, .slice as_ ns cs, .slice al nl cl_, .slice af nf cf, .int .u64 (rt : Nat)] 111)).bw ((BW.refl _).alloc (o := .cells #[.int .i64 (R1 : Nat), .int .i64 (R2 : Nat), .int .i64 (R3 : Nat), .int .i64 (R4 : Nat), .int .i64 (R5 : Nat), .bool true, .bool false, .bool true, .bool false] 179)))
 have Y := Lib.hid (show HpB _ (w.heap.size + 1) _ from hp_new (w.alloc (.cells #[.int .i64 k, .int .u32 (s : Nat), .int .u32 (m : Nat), .int .u64 (t : Nat), .int .u32 (st : Nat), .int .u32 (pk : Nat), .int .u32 (oc : Nat), .slice ar nr cr, .slice an nn cn, .slice as_ ns cs, .slice al nl cl_, .slice af nf cf, .int .u64 (rt : Nat)] 111)) (.cells #[.int .i64 (R1 : Nat), .int .i64 (R2 : Nat), .int .i64 (R3 : Nat), .int .i64 (R4 : Nat), .int .i64 (R5 : Nat), .bool true, .bool false, .bool true, .bool false] 179) (w.heap.size + 1) (by simp))
 have B := Lib.hid BA
 replace BA := Lib.hid BA
 go_enter Try.func107, Try.ntmps107
 go_upto_region 1 with (fail)
 generalize ((w.alloc _).alloc _) = w1 at *
 clear BA
 have z0 := hp_cell (P.out) 0
 have z1 := hp_cell (P.out) 1
 have z2 := hp_cell (P.out) 2
 have z3 := hp_cell (P.out) 3
 have z4 := hp_cell (P.out) 4
 have z5 := hp_cell (P.out) 5
 have z6 := hp_cell (P.out) 6
 have z7 := hp_cell (P.out) 7
 have z8 := hp_cell (P.out) 8
 have z9 := hp_cell (P.out) 9
 have z10 := hp_cell (P.out) 10
 have z11 := hp_cell (P.out) 11
 have z12 := hp_cell (P.out) 12
 simp only [List.getElem?_toArray, List.getElem?_cons_zero, List.getElem?_cons_succ] at z0 z1 z2 z3 z4 z5 z6 z7 z8 z9 z10 z11 z12
 have k0 := hp_cell (Y.out) 0
 have k1 := hp_cell (Y.out) 1
 have k2 := hp_cell (Y.out) 2
 have k3 := hp_cell (Y.out) 3
 have k4 := hp_cell (Y.out) 4
 have k5 := hp_cell (Y.out) 5
 have k6 := hp_cell (Y.out) 6
 have k7 := hp_cell (Y.out) 7
 have k8 := hp_cell (Y.out) 8
 simp only [List.getElem?_toArray, List.getElem?_cons_zero, List.getElem?_cons_succ] at k0 k1 k2 k3 k4 k5 k6 k7 k8
 clear P Y
 by_cases h0 : R1 < nr
 ·have d0 : decide ((R1 : Int) < (nr : Int)) = true := by simp; omega
  go_wp2_with fail
  go_ret
  exact ⟨congrArg (fun z => Ending.returned (.bool z)) (Eq.symm (decide_eq_false (by omega))), B.out⟩
 have d0 : decide ((R1 : Int) < (nr : Int)) = false := by simp; omega
 by_cases h1 : R2 < nn
 ·have d1 : decide ((R2 : Int) < (nn : Int)) = true := by simp; omega
  go_wp2_with fail
  go_ret
  exact ⟨congrArg (fun z => Ending.returned (.bool z)) (Eq.symm (decide_eq_false (by omega))), B.out⟩
 have d1 : decide ((R2 : Int) < (nn : Int)) = false := by simp; omega
 by_cases h2 : R3 < ns
 ·have d2 : decide ((R3 : Int) < (ns : Int)) = true := by simp; omega
  go_wp2_with fail
  go_ret
  exact ⟨congrArg (fun z => Ending.returned (.bool z)) (Eq.symm (decide_eq_false (by omega))), B.out⟩
 have d2 : decide ((R3 : Int) < (ns : Int)) = false := by simp; omega
 by_cases h3 : R4 < nl
 ·have d3 : decide ((R4 : Int) < (nl : Int)) = true := by simp; omega
  go_wp2_with fail
  go_ret
  exact ⟨congrArg (fun z => Ending.returned (.bool z)) (Eq.symm (decide_eq_false (by omega))), B.out⟩
 have d3 : decide ((R4 : Int) < (nl : Int)) = false := by simp; omega
 by_cases h4 : R5 < nf
 ·have d4 : decide ((R5 : Int) < (nf : Int)) = true := by simp; omega
  go_wp2_with fail
  go_ret
  exact ⟨congrArg (fun z => Ending.returned (.bool z)) (Eq.symm (decide_eq_false (by omega))), B.out⟩
 have d4 : decide ((R5 : Int) < (nf : Int)) = false := by simp; omega
 go_upto_region 3 with (fail)
 by_cases g0 : t = 0
 rotate_left
 ·have e0 : ((t : Int) != 0) = true := by simp; omega
  go_upto_region 4 with (fail)
  by_cases f1 : m = 0
  rotate_left
  ·have q1 : ((m : Int) == 0) = false := by simp; omega
   go_wp2_with fail
   go_ret
   exact ⟨congrArg (fun z => Ending.returned (.bool z)) (Eq.symm (decide_eq_false (by omega))), B.out⟩
  have q1 : ((m : Int) == 0) = true := by simp; omega
  by_cases f3 : rt = 0
  rotate_left
  ·have q3 : ((rt : Int) == 0) = false := by simp; omega
   go_wp2_with fail
   go_ret
   exact ⟨congrArg (fun z => Ending.returned (.bool z)) (Eq.symm (decide_eq_false (by omega))), B.out⟩
  have q3 : ((rt : Int) == 0) = true := by simp; omega
  go_wp2_with fail
  go_ret
  exact ⟨congrArg (fun z => Ending.returned (.bool z)) (Eq.symm (decide_eq_true (by omega))), B.out⟩
 have e0 : ((t : Int) != 0) = false := by simp; omega
 by_cases g1 : st = 0
 rotate_left
 ·have e1 : ((st : Int) != 0) = true := by simp; omega
  go_upto_region 4 with (fail)
  by_cases f1 : m = 0
  rotate_left
  ·have q1 : ((m : Int) == 0) = false := by simp; omega
   go_wp2_with fail
   go_ret
   exact ⟨congrArg (fun z => Ending.returned (.bool z)) (Eq.symm (decide_eq_false (by omega))), B.out⟩
  have q1 : ((m : Int) == 0) = true := by simp; omega
  by_cases f3 : rt = 0
  rotate_left
  ·have q3 : ((rt : Int) == 0) = false := by simp; omega
   go_wp2_with fail
   go_ret
   exact ⟨congrArg (fun z => Ending.returned (.bool z)) (Eq.symm (decide_eq_false (by omega))), B.out⟩
  have q3 : ((rt : Int) == 0) = true := by simp; omega
  go_wp2_with fail
  go_ret
  exact ⟨congrArg (fun z => Ending.returned (.bool z)) (Eq.symm (decide_eq_true (by omega))), B.out⟩
 have e1 : ((st : Int) != 0) = false := by simp; omega
 by_cases g2 : pk = 0
 rotate_left
 ·have e2 : ((pk : Int) != 0) = true := by simp; omega
  go_upto_region 4 with (fail)
  by_cases f1 : m = 0
  rotate_left
  ·have q1 : ((m : Int) == 0) = false := by simp; omega
   go_wp2_with fail
   go_ret
   exact ⟨congrArg (fun z => Ending.returned (.bool z)) (Eq.symm (decide_eq_false (by omega))), B.out⟩
  have q1 : ((m : Int) == 0) = true := by simp; omega
  by_cases f3 : rt = 0
  rotate_left
  ·have q3 : ((rt : Int) == 0) = false := by simp; omega
   go_wp2_with fail
   go_ret
   exact ⟨congrArg (fun z => Ending.returned (.bool z)) (Eq.symm (decide_eq_false (by omega))), B.out⟩
  have q3 : ((rt : Int) == 0) = true := by simp; omega
  go_wp2_with fail
  go_ret
  exact ⟨congrArg (fun z => Ending.returned (.bool z)) (Eq.symm (decide_eq_true (by omega))), B.out⟩
 have e2 : ((pk : Int) != 0) = false := by simp; omega
 by_cases g3 : oc = 0
 rotate_left
 ·have e3 : ((oc : Int) != 0) = true := by simp; omega
  go_upto_region 4 with (fail)
  by_cases f1 : m = 0
  rotate_left
  ·have q1 : ((m : Int) == 0) = false := by simp; omega
   go_wp2_with fail
   go_ret
   exact ⟨congrArg (fun z => Ending.returned (.bool z)) (Eq.symm (decide_eq_false (by omega))), B.out⟩
  have q1 : ((m : Int) == 0) = true := by simp; omega
  by_cases f3 : rt = 0
  rotate_left
  ·have q3 : ((rt : Int) == 0) = false := by simp; omega
   go_wp2_with fail
   go_ret
   exact ⟨congrArg (fun z => Ending.returned (.bool z)) (Eq.symm (decide_eq_false (by omega))), B.out⟩
  have q3 : ((rt : Int) == 0) = true := by simp; omega
  go_wp2_with fail
  go_ret
  exact ⟨congrArg (fun z => Ending.returned (.bool z)) (Eq.symm (decide_eq_true (by omega))), B.out⟩
 have e3 : ((oc : Int) != 0) = false := by simp; omega
 go_upto_region 4 with (fail)
 by_cases f1 : m = 0
 rotate_left
 ·have q1 : ((m : Int) == 0) = false := by simp; omega
  go_wp2_with fail
  go_ret
  exact ⟨congrArg (fun z => Ending.returned (.bool z)) (Eq.symm (decide_eq_false (by omega))), B.out⟩
 have q1 : ((m : Int) == 0) = true := by simp; omega
 by_cases f3 : rt = 0
 rotate_left
 ·have q3 : ((rt : Int) == 0) = false := by simp; omega
  go_wp2_with fail
  go_ret
  exact ⟨congrArg (fun z => Ending.returned (.bool z)) (Eq.symm (decide_eq_false (by omega))), B.out⟩
 have q3 : ((rt : Int) == 0) = true := by simp; omega
 go_wp2_with fail
 go_ret
 exact ⟨congrArg (fun z => Ending.returned (.bool z)) (Eq.symm (decide_eq_true (by omega))), B.out⟩
set_option maxRecDepth 100000 in
set_option maxHeartbeats 8000000 in
theorem within_o (k : Int) (R1 R2 R3 R4 R5 s m t st pk oc : Nat) (ar an as_ al af : Option Addr) (nr nn ns nl nf cr cn cs cl_ cf rt : Nat) (w : World) :
  Calls Try.prog 107 #[.agg #[.int .i64 k, .int .u32 (s : Nat), .int .u32 (m : Nat), .int .u64 (t : Nat), .int .u32 (st : Nat), .int .u32 (pk : Nat), .int .u32 (oc : Nat), .slice ar nr cr, .slice an nn cn, .slice as_ ns cs, .slice al nl cl_, .slice af nf cf, .int .u64 (rt : Nat)], .agg #[.int .i64 (R1 : Nat), .int .i64 (R2 : Nat), .int .i64 (R3 : Nat), .int .i64 (R4 : Nat), .int .i64 (R5 : Nat), .bool false, .bool false, .bool false, .bool false]] w fun e w' => e = .returned (.bool (decide (nr ≤ R1 ∧ nn ≤ R2 ∧ ns ≤ R3 ∧ nl ≤ R4 ∧ nf ≤ R5 ∧ s = 0 ∧ m = 0 ∧ t = 0 ∧ st = 0 ∧ pk = 0 ∧ oc = 0 ∧ rt = 0))) ∧ BW w w' := by
 have BA : BW w ((w.alloc (.cells #[.int .i64 k, .int .u32 (s : Nat), .int .u32 (m : Nat), .int .u64 (t : Nat), .int .u32 (st : Nat), .int .u32 (pk : Nat), .int .u32 (oc : Nat), .slice ar nr cr, .slice an nn cn, .slice as_ ns cs, .slice al nl cl_, .slice af nf cf, .int .u64 (rt : Nat)] 111)).alloc (.cells #[.int .i64 (R1 : Nat), .int .i64 (R2 : Nat), .int .i64 (R3 : Nat), .int .i64 (R4 : Nat), .int .i64 (R5 : Nat), .bool false, .bool false, .bool false, .bool false] 179)) := ((BW.refl w).alloc).alloc
 have P := Lib.hid ((HpB.new w (.cells #[.int .i64 k, .int .u32 (s : Nat), .int .u32 (m : Nat), .int .u64 (t : Nat), .int .u32 (st : Nat), .int .u32 (pk : Nat), .int .u32 (oc : Nat), .slice ar nr cr, .slice an nn cn, .slice as_ ns cs, .slice al nl cl_, .slice af nf cf, .int .u64 (rt : Nat)] 111)).bw ((BW.refl _).alloc (o := .cells #[.int .i64 (R1 : Nat), .int .i64 (R2 : Nat), .int .i64 (R3 : Nat), .int .i64 (R4 : Nat), .int .i64 (R5 : Nat), .bool false, .bool false, .bool false, .bool false] 179)))
 have Y := Lib.hid (show HpB _ (w.heap.size + 1) _ from hp_new (w.alloc (.cells #[.int .i64 k, .int .u32 (s : Nat), .int .u32 (m : Nat), .int .u64 (t : Nat), .int .u32 (st : Nat), .int .u32 (pk : Nat), .int .u32 (oc : Nat), .slice ar nr cr, .slice an nn cn, .slice as_ ns cs, .slice al nl cl_, .slice af nf cf, .int .u64 (rt : Nat)] 111)) (.cells #[.int .i64 (R1 : Nat), .int .i64 (R2 : Nat), .int .i64 (R3 : Nat), .int .i64 (R4 : Nat), .int .i64 (R5 : Nat), .bool false, .bool false, .bool false, .bool false] 179) (w.heap.size + 1) (by simp))
 have B := Lib.hid BA
 replace BA := Lib.hid BA
 go_enter Try.func107, Try.ntmps107
 go_upto_region 1 with (fail)
 generalize ((w.alloc _).alloc _) = w1 at *
 clear BA
 have z0 := hp_cell (P.out) 0
 have z1 := hp_cell (P.out) 1
 have z2 := hp_cell (P.out) 2
 have z3 := hp_cell (P.out) 3
 have z4 := hp_cell (P.out) 4
 have z5 := hp_cell (P.out) 5
 have z6 := hp_cell (P.out) 6
 have z7 := hp_cell (P.out) 7
 have z8 := hp_cell (P.out) 8
 have z9 := hp_cell (P.out) 9
 have z10 := hp_cell (P.out) 10
 have z11 := hp_cell (P.out) 11
 have z12 := hp_cell (P.out) 12
 simp only [List.getElem?_toArray, List.getElem?_cons_zero, List.getElem?_cons_succ] at z0 z1 z2 z3 z4 z5 z6 z7 z8 z9 z10 z11 z12
 have k0 := hp_cell (Y.out) 0
 have k1 := hp_cell (Y.out) 1
 have k2 := hp_cell (Y.out) 2
 have k3 := hp_cell (Y.out) 3
 have k4 := hp_cell (Y.out) 4
 have k5 := hp_cell (Y.out) 5
 have k6 := hp_cell (Y.out) 6
 have k7 := hp_cell (Y.out) 7
 have k8 := hp_cell (Y.out) 8
 simp only [List.getElem?_toArray, List.getElem?_cons_zero, List.getElem?_cons_succ] at k0 k1 k2 k3 k4 k5 k6 k7 k8
 clear P Y
 by_cases h0 : R1 < nr
 ·have d0 : decide ((R1 : Int) < (nr : Int)) = true := by simp; omega
  go_wp2_with fail
  go_ret
  exact ⟨congrArg (fun z => Ending.returned (.bool z)) (Eq.symm (decide_eq_false (by omega))), B.out⟩
 have d0 : decide ((R1 : Int) < (nr : Int)) = false := by simp; omega
 by_cases h1 : R2 < nn
 ·have d1 : decide ((R2 : Int) < (nn : Int)) = true := by simp; omega
  go_wp2_with fail
  go_ret
  exact ⟨congrArg (fun z => Ending.returned (.bool z)) (Eq.symm (decide_eq_false (by omega))), B.out⟩
 have d1 : decide ((R2 : Int) < (nn : Int)) = false := by simp; omega
 by_cases h2 : R3 < ns
 ·have d2 : decide ((R3 : Int) < (ns : Int)) = true := by simp; omega
  go_wp2_with fail
  go_ret
  exact ⟨congrArg (fun z => Ending.returned (.bool z)) (Eq.symm (decide_eq_false (by omega))), B.out⟩
 have d2 : decide ((R3 : Int) < (ns : Int)) = false := by simp; omega
 by_cases h3 : R4 < nl
 ·have d3 : decide ((R4 : Int) < (nl : Int)) = true := by simp; omega
  go_wp2_with fail
  go_ret
  exact ⟨congrArg (fun z => Ending.returned (.bool z)) (Eq.symm (decide_eq_false (by omega))), B.out⟩
 have d3 : decide ((R4 : Int) < (nl : Int)) = false := by simp; omega
 by_cases h4 : R5 < nf
 ·have d4 : decide ((R5 : Int) < (nf : Int)) = true := by simp; omega
  go_wp2_with fail
  go_ret
  exact ⟨congrArg (fun z => Ending.returned (.bool z)) (Eq.symm (decide_eq_false (by omega))), B.out⟩
 have d4 : decide ((R5 : Int) < (nf : Int)) = false := by simp; omega
 go_upto_region 3 with (fail)
 by_cases g0 : t = 0
 rotate_left
 ·have e0 : ((t : Int) != 0) = true := by simp; omega
  go_upto_region 4 with (fail)
  by_cases f0 : s = 0
  rotate_left
  ·have q0 : ((s : Int) == 0) = false := by simp; omega
   go_wp2_with fail
   go_ret
   exact ⟨congrArg (fun z => Ending.returned (.bool z)) (Eq.symm (decide_eq_false (by omega))), B.out⟩
  have q0 : ((s : Int) == 0) = true := by simp; omega
  by_cases f1 : m = 0
  rotate_left
  ·have q1 : ((m : Int) == 0) = false := by simp; omega
   go_wp2_with fail
   go_ret
   exact ⟨congrArg (fun z => Ending.returned (.bool z)) (Eq.symm (decide_eq_false (by omega))), B.out⟩
  have q1 : ((m : Int) == 0) = true := by simp; omega
  go_wp2_with fail
  go_ret
  exact ⟨congrArg (fun z => Ending.returned (.bool z)) (Eq.symm (decide_eq_false (by omega))), B.out⟩
 have e0 : ((t : Int) != 0) = false := by simp; omega
 by_cases g1 : st = 0
 rotate_left
 ·have e1 : ((st : Int) != 0) = true := by simp; omega
  go_upto_region 4 with (fail)
  by_cases f0 : s = 0
  rotate_left
  ·have q0 : ((s : Int) == 0) = false := by simp; omega
   go_wp2_with fail
   go_ret
   exact ⟨congrArg (fun z => Ending.returned (.bool z)) (Eq.symm (decide_eq_false (by omega))), B.out⟩
  have q0 : ((s : Int) == 0) = true := by simp; omega
  by_cases f1 : m = 0
  rotate_left
  ·have q1 : ((m : Int) == 0) = false := by simp; omega
   go_wp2_with fail
   go_ret
   exact ⟨congrArg (fun z => Ending.returned (.bool z)) (Eq.symm (decide_eq_false (by omega))), B.out⟩
  have q1 : ((m : Int) == 0) = true := by simp; omega
  go_wp2_with fail
  go_ret
  exact ⟨congrArg (fun z => Ending.returned (.bool z)) (Eq.symm (decide_eq_false (by omega))), B.out⟩
 have e1 : ((st : Int) != 0) = false := by simp; omega
 by_cases g2 : pk = 0
 rotate_left
 ·have e2 : ((pk : Int) != 0) = true := by simp; omega
  go_upto_region 4 with (fail)
  by_cases f0 : s = 0
  rotate_left
  ·have q0 : ((s : Int) == 0) = false := by simp; omega
   go_wp2_with fail
   go_ret
   exact ⟨congrArg (fun z => Ending.returned (.bool z)) (Eq.symm (decide_eq_false (by omega))), B.out⟩
  have q0 : ((s : Int) == 0) = true := by simp; omega
  by_cases f1 : m = 0
  rotate_left
  ·have q1 : ((m : Int) == 0) = false := by simp; omega
   go_wp2_with fail
   go_ret
   exact ⟨congrArg (fun z => Ending.returned (.bool z)) (Eq.symm (decide_eq_false (by omega))), B.out⟩
  have q1 : ((m : Int) == 0) = true := by simp; omega
  go_wp2_with fail
  go_ret
  exact ⟨congrArg (fun z => Ending.returned (.bool z)) (Eq.symm (decide_eq_false (by omega))), B.out⟩
 have e2 : ((pk : Int) != 0) = false := by simp; omega
 by_cases g3 : oc = 0
 rotate_left
 ·have e3 : ((oc : Int) != 0) = true := by simp; omega
  go_upto_region 4 with (fail)
  by_cases f0 : s = 0
  rotate_left
  ·have q0 : ((s : Int) == 0) = false := by simp; omega
   go_wp2_with fail
   go_ret
   exact ⟨congrArg (fun z => Ending.returned (.bool z)) (Eq.symm (decide_eq_false (by omega))), B.out⟩
  have q0 : ((s : Int) == 0) = true := by simp; omega
  by_cases f1 : m = 0
  rotate_left
  ·have q1 : ((m : Int) == 0) = false := by simp; omega
   go_wp2_with fail
   go_ret
   exact ⟨congrArg (fun z => Ending.returned (.bool z)) (Eq.symm (decide_eq_false (by omega))), B.out⟩
  have q1 : ((m : Int) == 0) = true := by simp; omega
  go_wp2_with fail
  go_ret
  exact ⟨congrArg (fun z => Ending.returned (.bool z)) (Eq.symm (decide_eq_false (by omega))), B.out⟩
 have e3 : ((oc : Int) != 0) = false := by simp; omega
 go_upto_region 4 with (fail)
 by_cases f0 : s = 0
 rotate_left
 ·have q0 : ((s : Int) == 0) = false := by simp; omega
  go_wp2_with fail
  go_ret
  exact ⟨congrArg (fun z => Ending.returned (.bool z)) (Eq.symm (decide_eq_false (by omega))), B.out⟩
 have q0 : ((s : Int) == 0) = true := by simp; omega
 by_cases f1 : m = 0
 rotate_left
 ·have q1 : ((m : Int) == 0) = false := by simp; omega
  go_wp2_with fail
  go_ret
  exact ⟨congrArg (fun z => Ending.returned (.bool z)) (Eq.symm (decide_eq_false (by omega))), B.out⟩
 have q1 : ((m : Int) == 0) = true := by simp; omega
 by_cases f3 : rt = 0
 rotate_left
 ·have q3 : ((rt : Int) == 0) = false := by simp; omega
  go_wp2_with fail
  go_ret
  exact ⟨congrArg (fun z => Ending.returned (.bool z)) (Eq.symm (decide_eq_false (by omega))), B.out⟩
 have q3 : ((rt : Int) == 0) = true := by simp; omega
 go_wp2_with fail
 go_ret
 exact ⟨congrArg (fun z => Ending.returned (.bool z)) (Eq.symm (decide_eq_true (by omega))), B.out⟩
set_option maxRecDepth 100000 in
set_option maxHeartbeats 8000000 in
theorem within_ab (k : Int) (R1 R2 R3 R4 R5 s m t st pk oc : Nat) (ar an as_ al af : Option Addr) (nr nn ns nl nf cr cn cs cl_ cf rt : Nat) (w : World) :
  Calls Try.prog 107 #[.agg #[.int .i64 k, .int .u32 (s : Nat), .int .u32 (m : Nat), .int .u64 (t : Nat), .int .u32 (st : Nat), .int .u32 (pk : Nat), .int .u32 (oc : Nat), .slice ar nr cr, .slice an nn cn, .slice as_ ns cs, .slice al nl cl_, .slice af nf cf, .int .u64 (rt : Nat)], .agg #[.int .i64 (R1 : Nat), .int .i64 (R2 : Nat), .int .i64 (R3 : Nat), .int .i64 (R4 : Nat), .int .i64 (R5 : Nat), .bool true, .bool true, .bool false, .bool false]] w fun e w' => e = .returned (.bool (decide (nr ≤ R1 ∧ nn ≤ R2 ∧ ns ≤ R3 ∧ nl ≤ R4 ∧ nf ≤ R5 ∧ t = 0 ∧ st = 0 ∧ pk = 0 ∧ oc = 0 ∧ rt = 0))) ∧ BW w w' := by
 have BA : BW w ((w.alloc (.cells #[.int .i64 k, .int .u32 (s : Nat), .int .u32 (m : Nat), .int .u64 (t : Nat), .int .u32 (st : Nat), .int .u32 (pk : Nat), .int .u32 (oc : Nat), .slice ar nr cr, .slice an nn cn, .slice as_ ns cs, .slice al nl cl_, .slice af nf cf, .int .u64 (rt : Nat)] 111)).alloc (.cells #[.int .i64 (R1 : Nat), .int .i64 (R2 : Nat), .int .i64 (R3 : Nat), .int .i64 (R4 : Nat), .int .i64 (R5 : Nat), .bool true, .bool true, .bool false, .bool false] 179)) := ((BW.refl w).alloc).alloc
 have P := Lib.hid ((HpB.new w (.cells #[.int .i64 k, .int .u32 (s : Nat), .int .u32 (m : Nat), .int .u64 (t : Nat), .int .u32 (st : Nat), .int .u32 (pk : Nat), .int .u32 (oc : Nat), .slice ar nr cr, .slice an nn cn, .slice as_ ns cs, .slice al nl cl_, .slice af nf cf, .int .u64 (rt : Nat)] 111)).bw ((BW.refl _).alloc (o := .cells #[.int .i64 (R1 : Nat), .int .i64 (R2 : Nat), .int .i64 (R3 : Nat), .int .i64 (R4 : Nat), .int .i64 (R5 : Nat), .bool true, .bool true, .bool false, .bool false] 179)))
 have Y := Lib.hid (show HpB _ (w.heap.size + 1) _ from hp_new (w.alloc (.cells #[.int .i64 k, .int .u32 (s : Nat), .int .u32 (m : Nat), .int .u64 (t : Nat), .int .u32 (st : Nat), .int .u32 (pk : Nat), .int .u32 (oc : Nat), .slice ar nr cr, .slice an nn cn, .slice as_ ns cs, .slice al nl cl_, .slice af nf cf, .int .u64 (rt : Nat)] 111)) (.cells #[.int .i64 (R1 : Nat), .int .i64 (R2 : Nat), .int .i64 (R3 : Nat), .int .i64 (R4 : Nat), .int .i64 (R5 : Nat), .bool true, .bool true, .bool false, .bool false] 179) (w.heap.size + 1) (by simp))
 have B := Lib.hid BA
 replace BA := Lib.hid BA
 go_enter Try.func107, Try.ntmps107
 go_upto_region 1 with (fail)
 generalize ((w.alloc _).alloc _) = w1 at *
 clear BA
 have z0 := hp_cell (P.out) 0
 have z1 := hp_cell (P.out) 1
 have z2 := hp_cell (P.out) 2
 have z3 := hp_cell (P.out) 3
 have z4 := hp_cell (P.out) 4
 have z5 := hp_cell (P.out) 5
 have z6 := hp_cell (P.out) 6
 have z7 := hp_cell (P.out) 7
 have z8 := hp_cell (P.out) 8
 have z9 := hp_cell (P.out) 9
 have z10 := hp_cell (P.out) 10
 have z11 := hp_cell (P.out) 11
 have z12 := hp_cell (P.out) 12
 simp only [List.getElem?_toArray, List.getElem?_cons_zero, List.getElem?_cons_succ] at z0 z1 z2 z3 z4 z5 z6 z7 z8 z9 z10 z11 z12
 have k0 := hp_cell (Y.out) 0
 have k1 := hp_cell (Y.out) 1
 have k2 := hp_cell (Y.out) 2
 have k3 := hp_cell (Y.out) 3
 have k4 := hp_cell (Y.out) 4
 have k5 := hp_cell (Y.out) 5
 have k6 := hp_cell (Y.out) 6
 have k7 := hp_cell (Y.out) 7
 have k8 := hp_cell (Y.out) 8
 simp only [List.getElem?_toArray, List.getElem?_cons_zero, List.getElem?_cons_succ] at k0 k1 k2 k3 k4 k5 k6 k7 k8
 clear P Y
 by_cases h0 : R1 < nr
 ·have d0 : decide ((R1 : Int) < (nr : Int)) = true := by simp; omega
  go_wp2_with fail
  go_ret
  exact ⟨congrArg (fun z => Ending.returned (.bool z)) (Eq.symm (decide_eq_false (by omega))), B.out⟩
 have d0 : decide ((R1 : Int) < (nr : Int)) = false := by simp; omega
 by_cases h1 : R2 < nn
 ·have d1 : decide ((R2 : Int) < (nn : Int)) = true := by simp; omega
  go_wp2_with fail
  go_ret
  exact ⟨congrArg (fun z => Ending.returned (.bool z)) (Eq.symm (decide_eq_false (by omega))), B.out⟩
 have d1 : decide ((R2 : Int) < (nn : Int)) = false := by simp; omega
 by_cases h2 : R3 < ns
 ·have d2 : decide ((R3 : Int) < (ns : Int)) = true := by simp; omega
  go_wp2_with fail
  go_ret
  exact ⟨congrArg (fun z => Ending.returned (.bool z)) (Eq.symm (decide_eq_false (by omega))), B.out⟩
 have d2 : decide ((R3 : Int) < (ns : Int)) = false := by simp; omega
 by_cases h3 : R4 < nl
 ·have d3 : decide ((R4 : Int) < (nl : Int)) = true := by simp; omega
  go_wp2_with fail
  go_ret
  exact ⟨congrArg (fun z => Ending.returned (.bool z)) (Eq.symm (decide_eq_false (by omega))), B.out⟩
 have d3 : decide ((R4 : Int) < (nl : Int)) = false := by simp; omega
 by_cases h4 : R5 < nf
 ·have d4 : decide ((R5 : Int) < (nf : Int)) = true := by simp; omega
  go_wp2_with fail
  go_ret
  exact ⟨congrArg (fun z => Ending.returned (.bool z)) (Eq.symm (decide_eq_false (by omega))), B.out⟩
 have d4 : decide ((R5 : Int) < (nf : Int)) = false := by simp; omega
 go_upto_region 3 with (fail)
 by_cases g0 : t = 0
 rotate_left
 ·have e0 : ((t : Int) != 0) = true := by simp; omega
  go_upto_region 4 with (fail)
  go_wp2_with fail
  go_ret
  exact ⟨congrArg (fun z => Ending.returned (.bool z)) (Eq.symm (decide_eq_false (by omega))), B.out⟩
 have e0 : ((t : Int) != 0) = false := by simp; omega
 by_cases g1 : st = 0
 rotate_left
 ·have e1 : ((st : Int) != 0) = true := by simp; omega
  go_upto_region 4 with (fail)
  go_wp2_with fail
  go_ret
  exact ⟨congrArg (fun z => Ending.returned (.bool z)) (Eq.symm (decide_eq_false (by omega))), B.out⟩
 have e1 : ((st : Int) != 0) = false := by simp; omega
 by_cases g2 : pk = 0
 rotate_left
 ·have e2 : ((pk : Int) != 0) = true := by simp; omega
  go_upto_region 4 with (fail)
  go_wp2_with fail
  go_ret
  exact ⟨congrArg (fun z => Ending.returned (.bool z)) (Eq.symm (decide_eq_false (by omega))), B.out⟩
 have e2 : ((pk : Int) != 0) = false := by simp; omega
 by_cases g3 : oc = 0
 rotate_left
 ·have e3 : ((oc : Int) != 0) = true := by simp; omega
  go_upto_region 4 with (fail)
  go_wp2_with fail
  go_ret
  exact ⟨congrArg (fun z => Ending.returned (.bool z)) (Eq.symm (decide_eq_false (by omega))), B.out⟩
 have e3 : ((oc : Int) != 0) = false := by simp; omega
 go_upto_region 4 with (fail)
 by_cases f3 : rt = 0
 rotate_left
 ·have q3 : ((rt : Int) == 0) = false := by simp; omega
  go_wp2_with fail
  go_ret
  exact ⟨congrArg (fun z => Ending.returned (.bool z)) (Eq.symm (decide_eq_false (by omega))), B.out⟩
 have q3 : ((rt : Int) == 0) = true := by simp; omega
 go_wp2_with fail
 go_ret
 exact ⟨congrArg (fun z => Ending.returned (.bool z)) (Eq.symm (decide_eq_true (by omega))), B.out⟩
set_option maxRecDepth 100000 in
set_option maxHeartbeats 8000000 in
theorem within_ad (k : Int) (R1 R2 R3 R4 R5 s m t st pk oc : Nat) (ar an as_ al af : Option Addr) (nr nn ns nl nf cr cn cs cl_ cf rt : Nat) (w : World) :
  Calls Try.prog 107 #[.agg #[.int .i64 k, .int .u32 (s : Nat), .int .u32 (m : Nat), .int .u64 (t : Nat), .int .u32 (st : Nat), .int .u32 (pk : Nat), .int .u32 (oc : Nat), .slice ar nr cr, .slice an nn cn, .slice as_ ns cs, .slice al nl cl_, .slice af nf cf, .int .u64 (rt : Nat)], .agg #[.int .i64 (R1 : Nat), .int .i64 (R2 : Nat), .int .i64 (R3 : Nat), .int .i64 (R4 : Nat), .int .i64 (R5 : Nat), .bool true, .bool false, .bool false, .bool true]] w fun e w' => e = .returned (.bool (decide (nr ≤ R1 ∧ nn ≤ R2 ∧ ns ≤ R3 ∧ nl ≤ R4 ∧ nf ≤ R5 ∧ m = 0 ∧ t = 0 ∧ st = 0 ∧ pk = 0 ∧ oc = 0))) ∧ BW w w' := by
 have BA : BW w ((w.alloc (.cells #[.int .i64 k, .int .u32 (s : Nat), .int .u32 (m : Nat), .int .u64 (t : Nat), .int .u32 (st : Nat), .int .u32 (pk : Nat), .int .u32 (oc : Nat), .slice ar nr cr, .slice an nn cn, .slice as_ ns cs, .slice al nl cl_, .slice af nf cf, .int .u64 (rt : Nat)] 111)).alloc (.cells #[.int .i64 (R1 : Nat), .int .i64 (R2 : Nat), .int .i64 (R3 : Nat), .int .i64 (R4 : Nat), .int .i64 (R5 : Nat), .bool true, .bool false, .bool false, .bool true] 179)) := ((BW.refl w).alloc).alloc
 have P := Lib.hid ((HpB.new w (.cells #[.int .i64 k, .int .u32 (s : Nat), .int .u32 (m : Nat), .int .u64 (t : Nat), .int .u32 (st : Nat), .int .u32 (pk : Nat), .int .u32 (oc : Nat), .slice ar nr cr, .slice an nn cn, .slice as_ ns cs, .slice al nl cl_, .slice af nf cf, .int .u64 (rt : Nat)] 111)).bw ((BW.refl _).alloc (o := .cells #[.int .i64 (R1 : Nat), .int .i64 (R2 : Nat), .int .i64 (R3 : Nat), .int .i64 (R4 : Nat), .int .i64 (R5 : Nat), .bool true, .bool false, .bool false, .bool true] 179)))
 have Y := Lib.hid (show HpB _ (w.heap.size + 1) _ from hp_new (w.alloc (.cells #[.int .i64 k, .int .u32 (s : Nat), .int .u32 (m : Nat), .int .u64 (t : Nat), .int .u32 (st : Nat), .int .u32 (pk : Nat), .int .u32 (oc : Nat), .slice ar nr cr, .slice an nn cn, .slice as_ ns cs, .slice al nl cl_, .slice af nf cf, .int .u64 (rt : Nat)] 111)) (.cells #[.int .i64 (R1 : Nat), .int .i64 (R2 : Nat), .int .i64 (R3 : Nat), .int .i64 (R4 : Nat), .int .i64 (R5 : Nat), .bool true, .bool false, .bool false, .bool true] 179) (w.heap.size + 1) (by simp))
 have B := Lib.hid BA
 replace BA := Lib.hid BA
 go_enter Try.func107, Try.ntmps107
 go_upto_region 1 with (fail)
 generalize ((w.alloc _).alloc _) = w1 at *
 clear BA
 have z0 := hp_cell (P.out) 0
 have z1 := hp_cell (P.out) 1
 have z2 := hp_cell (P.out) 2
 have z3 := hp_cell (P.out) 3
 have z4 := hp_cell (P.out) 4
 have z5 := hp_cell (P.out) 5
 have z6 := hp_cell (P.out) 6
 have z7 := hp_cell (P.out) 7
 have z8 := hp_cell (P.out) 8
 have z9 := hp_cell (P.out) 9
 have z10 := hp_cell (P.out) 10
 have z11 := hp_cell (P.out) 11
 have z12 := hp_cell (P.out) 12
 simp only [List.getElem?_toArray, List.getElem?_cons_zero, List.getElem?_cons_succ] at z0 z1 z2 z3 z4 z5 z6 z7 z8 z9 z10 z11 z12
 have k0 := hp_cell (Y.out) 0
 have k1 := hp_cell (Y.out) 1
 have k2 := hp_cell (Y.out) 2
 have k3 := hp_cell (Y.out) 3
 have k4 := hp_cell (Y.out) 4
 have k5 := hp_cell (Y.out) 5
 have k6 := hp_cell (Y.out) 6
 have k7 := hp_cell (Y.out) 7
 have k8 := hp_cell (Y.out) 8
 simp only [List.getElem?_toArray, List.getElem?_cons_zero, List.getElem?_cons_succ] at k0 k1 k2 k3 k4 k5 k6 k7 k8
 clear P Y
 by_cases h0 : R1 < nr
 ·have d0 : decide ((R1 : Int) < (nr : Int)) = true := by simp; omega
  go_wp2_with fail
  go_ret
  exact ⟨congrArg (fun z => Ending.returned (.bool z)) (Eq.symm (decide_eq_false (by omega))), B.out⟩
 have d0 : decide ((R1 : Int) < (nr : Int)) = false := by simp; omega
 by_cases h1 : R2 < nn
 ·have d1 : decide ((R2 : Int) < (nn : Int)) = true := by simp; omega
  go_wp2_with fail
  go_ret
  exact ⟨congrArg (fun z => Ending.returned (.bool z)) (Eq.symm (decide_eq_false (by omega))), B.out⟩
 have d1 : decide ((R2 : Int) < (nn : Int)) = false := by simp; omega
 by_cases h2 : R3 < ns
 ·have d2 : decide ((R3 : Int) < (ns : Int)) = true := by simp; omega
  go_wp2_with fail
  go_ret
  exact ⟨congrArg (fun z => Ending.returned (.bool z)) (Eq.symm (decide_eq_false (by omega))), B.out⟩
 have d2 : decide ((R3 : Int) < (ns : Int)) = false := by simp; omega
 by_cases h3 : R4 < nl
 ·have d3 : decide ((R4 : Int) < (nl : Int)) = true := by simp; omega
  go_wp2_with fail
  go_ret
  exact ⟨congrArg (fun z => Ending.returned (.bool z)) (Eq.symm (decide_eq_false (by omega))), B.out⟩
 have d3 : decide ((R4 : Int) < (nl : Int)) = false := by simp; omega
 by_cases h4 : R5 < nf
 ·have d4 : decide ((R5 : Int) < (nf : Int)) = true := by simp; omega
  go_wp2_with fail
  go_ret
  exact ⟨congrArg (fun z => Ending.returned (.bool z)) (Eq.symm (decide_eq_false (by omega))), B.out⟩
 have d4 : decide ((R5 : Int) < (nf : Int)) = false := by simp; omega
 go_upto_region 3 with (fail)
 by_cases g0 : t = 0
 rotate_left
 ·have e0 : ((t : Int) != 0) = true := by simp; omega
  go_upto_region 4 with (fail)
  by_cases f1 : m = 0
  rotate_left
  ·have q1 : ((m : Int) == 0) = false := by simp; omega
   go_wp2_with fail
   go_ret
   exact ⟨congrArg (fun z => Ending.returned (.bool z)) (Eq.symm (decide_eq_false (by omega))), B.out⟩
  have q1 : ((m : Int) == 0) = true := by simp; omega
  go_wp2_with fail
  go_ret
  exact ⟨congrArg (fun z => Ending.returned (.bool z)) (Eq.symm (decide_eq_false (by omega))), B.out⟩
 have e0 : ((t : Int) != 0) = false := by simp; omega
 by_cases g1 : st = 0
 rotate_left
 ·have e1 : ((st : Int) != 0) = true := by simp; omega
  go_upto_region 4 with (fail)
  by_cases f1 : m = 0
  rotate_left
  ·have q1 : ((m : Int) == 0) = false := by simp; omega
   go_wp2_with fail
   go_ret
   exact ⟨congrArg (fun z => Ending.returned (.bool z)) (Eq.symm (decide_eq_false (by omega))), B.out⟩
  have q1 : ((m : Int) == 0) = true := by simp; omega
  go_wp2_with fail
  go_ret
  exact ⟨congrArg (fun z => Ending.returned (.bool z)) (Eq.symm (decide_eq_false (by omega))), B.out⟩
 have e1 : ((st : Int) != 0) = false := by simp; omega
 by_cases g2 : pk = 0
 rotate_left
 ·have e2 : ((pk : Int) != 0) = true := by simp; omega
  go_upto_region 4 with (fail)
  by_cases f1 : m = 0
  rotate_left
  ·have q1 : ((m : Int) == 0) = false := by simp; omega
   go_wp2_with fail
   go_ret
   exact ⟨congrArg (fun z => Ending.returned (.bool z)) (Eq.symm (decide_eq_false (by omega))), B.out⟩
  have q1 : ((m : Int) == 0) = true := by simp; omega
  go_wp2_with fail
  go_ret
  exact ⟨congrArg (fun z => Ending.returned (.bool z)) (Eq.symm (decide_eq_false (by omega))), B.out⟩
 have e2 : ((pk : Int) != 0) = false := by simp; omega
 by_cases g3 : oc = 0
 rotate_left
 ·have e3 : ((oc : Int) != 0) = true := by simp; omega
  go_upto_region 4 with (fail)
  by_cases f1 : m = 0
  rotate_left
  ·have q1 : ((m : Int) == 0) = false := by simp; omega
   go_wp2_with fail
   go_ret
   exact ⟨congrArg (fun z => Ending.returned (.bool z)) (Eq.symm (decide_eq_false (by omega))), B.out⟩
  have q1 : ((m : Int) == 0) = true := by simp; omega
  go_wp2_with fail
  go_ret
  exact ⟨congrArg (fun z => Ending.returned (.bool z)) (Eq.symm (decide_eq_false (by omega))), B.out⟩
 have e3 : ((oc : Int) != 0) = false := by simp; omega
 go_upto_region 4 with (fail)
 by_cases f1 : m = 0
 rotate_left
 ·have q1 : ((m : Int) == 0) = false := by simp; omega
  go_wp2_with fail
  go_ret
  exact ⟨congrArg (fun z => Ending.returned (.bool z)) (Eq.symm (decide_eq_false (by omega))), B.out⟩
 have q1 : ((m : Int) == 0) = true := by simp; omega
 go_wp2_with fail
 go_ret
 exact ⟨congrArg (fun z => Ending.returned (.bool z)) (Eq.symm (decide_eq_true (by omega))), B.out⟩
end Go.Proofs.Ytcempndfbckcaaa

namespace Go.Proofs.Ytcempndfbckcaaa
open Go.RowKit
def badN (p : Nat × List Nat) : Bool := !nameB (bstr p.2)
def badR (r : Rep) : Bool := decide (r.lost < -8388608 ∨ 8388608 ≤ r.lost)
set_option maxRecDepth 100000 in
set_option maxHeartbeats 8000000 in
theorem nam1_ok (p : Nat × List Nat) (hp : p.2.length ≤ 1000) (w : World) :
  Calls Try.prog 109 #[.agg #[.int .u32 (p.1 : Nat), .string (bstr p.2)]] w fun e w' => e = .returned (.bool (badN p)) ∧ BW w w' := by
 obtain ⟨s, nm⟩ := p
 have hR : badN (s, nm) = !nameB (bstr nm) := rfl
 rw [hR]
 dsimp only at hp ⊢
 have cI := fun wz => Lib.hid (isname_ok (bstr nm) (by rw [bstr_size]; omega) wz)
 generalize bstr nm = sx at *
 generalize nameB sx = r at *
 have BA : BW w (w.alloc (.cells #[.int .u32 (s : Nat), .string sx] 148)) := (BW.refl w).alloc
 have z1 := (hp_cell (HpB.new w (.cells #[.int .u32 (s : Nat), .string sx] 148)) 1).trans (show _ = some (.string sx) from rfl)
 clear hp hR
 replace BA := Lib.hid BA
 go_enter Try.func109, Try.ntmps109
 go_upto_region 1 with (fail)
 generalize (w.alloc _) = w1 at *
 go_wp2_with fail
 refine Calls.mono (cI w1).out ?_
 rintro e w2 ⟨rfl, hb⟩
 have B := Lib.hid (BA.out.trans hb)
 clear cI hb BA z1
 dsimp only
 go_wp2_with fail
 go_ret
 exact ⟨rfl, B.out⟩
set_option maxRecDepth 100000 in
set_option maxHeartbeats 8000000 in
theorem rep1_ok (p : Rep) (hp : True) (w : World) :
  Calls Try.prog 111 #[.agg #[.int .u32 (p.s : Nat), .int .u8 (p.f : Nat), .int .i32 p.lost, .int .u32 (p.h : Nat), .int .u32 (p.j : Nat), .int .u32 (p.l : Nat), .int .u32 (p.d : Nat)]] w fun e w' => e = .returned (.bool (badR p)) ∧ BW w w' := by
 obtain ⟨a1, a2, lost, a4, a5, a6, a7⟩ := p
 have hR : badR ⟨a1, a2, lost, a4, a5, a6, a7⟩ = decide (lost < -8388608 ∨ 8388608 ≤ lost) := rfl
 rw [hR]
 dsimp only
 have BA : BW w (w.alloc (.cells #[.int .u32 (a1 : Nat), .int .u8 (a2 : Nat), .int .i32 lost, .int .u32 (a4 : Nat), .int .u32 (a5 : Nat), .int .u32 (a6 : Nat), .int .u32 (a7 : Nat)] 187)) := (BW.refl w).alloc
 have z2 := (hp_cell (HpB.new w (.cells #[.int .u32 (a1 : Nat), .int .u8 (a2 : Nat), .int .i32 lost, .int .u32 (a4 : Nat), .int .u32 (a5 : Nat), .int .u32 (a6 : Nat), .int .u32 (a7 : Nat)] 187)) 2).trans (show _ = some (.int .i32 lost) from rfl)
 clear hp hR
 replace BA := Lib.hid BA
 go_enter Try.func111, Try.ntmps111
 go_upto_region 1 with (fail)
 generalize (w.alloc _) = w1 at *
 by_cases h1 : lost < -8388608
 ·have d1 : decide (lost < -8388608) = true := by simpa using h1
  go_wp2_with fail
  go_ret
  exact ⟨by first | rfl | (rw [decide_eq_true (by omega)]; rfl), BA.out⟩
 have d1 : decide (lost < -8388608) = false := by simpa using h1
 by_cases h2 : 8388608 ≤ lost
 ·have d2 : decide (8388608 ≤ lost) = true := by simpa using h2
  go_wp2_with fail
  go_ret
  exact ⟨by first | rfl | (rw [decide_eq_true (by omega)]; rfl), BA.out⟩
 have d2 : decide (8388608 ≤ lost) = false := by simpa using h2
 go_wp2_with fail
 go_ret
 exact ⟨by first | rfl | (rw [decide_eq_false (by omega)]; rfl), BA.out⟩
set_option maxRecDepth 100000 in
set_option maxHeartbeats 8000000 in
theorem idx_nam (L : List (Nat × List Nat)) (n : Nat) (hn : n ≤ 1000) (v : Value) (w : World) (h : SQ EM w 0 v n L) (hL : ∀ p ∈ L, p.2.length ≤ 1000) :
  Calls Try.prog 128 #[v, .func (.func 109) #[] #[]] w fun e w' => (∃ r : Int, e = .returned (.int .i64 r) ∧ decide (0 ≤ r) = L.any badN) ∧ BW w w' := by
 have hN : ∀ (args : Array Value) (w : World), (callFunc 109 args).run Try.prog w = .ok (.enter 109 args) w := fun _ _ => by kernel_rfl
 obtain ⟨sa, cap, rfl, hnc, hcm⟩ := h.len
 unfold maxLen at hcm
 have hH := Lib.hid h
 have hdl := Lib.hid h.1
 have hLL := Lib.hid hL
 clear h hL
 have hA : L.any badN = (L.drop 0).any badN := by rw [List.drop_zero]
 generalize L.any badN = R at *
 replace hA := Lib.hid hA
 go_enter Try.func128, Try.ntmps128
 go_upto_region 2 with (fail)
 go_loopg [8] n (fun m' i wx => ∃ k : Nat, m' = n - k ∧ k ≤ n ∧ i = .int .i64 (k : Nat) ∧ Hid (R = (L.drop k).any badN) ∧ Hid (BW w wx))
 case atStart => exact ⟨0, by omega, by omega, rfl, hA, BW.refl _⟩
 case round =>
  clear hA
  obtain ⟨k, rfl, hk, rfl, hA, B⟩ := hrel
  by_cases hkn : k < n
  ·have d : decide ((k : Int) < (n : Int)) = true := by simp; omega
   have hkD : k < L.length := by rw [hdl.out]; exact hkn
   obtain ⟨g, o, rfl, -, hc⟩ := sq_cells (hH.out.bw B.out) (by omega)
   obtain ⟨cs, hcs, hce⟩ := hc k hkD
   replace hcs : cs = namV (L[k]) := hcs
   replace hce : ∀ j, j < 2 → wr.cell? ⟨g, o + k * 2 + j, none⟩ = (namV (L[k]))[j]? := fun j hj => by rw [← hcs]; exact hce j hj
   have hA2 := hA.out
   rw [List.drop_eq_getElem_cons hkD, List.any_cons] at hA2
   have cF := Lib.hid (nam1_ok (L[k]) (hLL.out _ (List.getElem_mem hkD)) wr)
   clear hc hA hcs
   generalize L[k] = E at *
   obtain ⟨es, en⟩ := E
   have y0 : wr.cell? ⟨g, o + k * 2, none⟩ = some (.int .u32 (es : Nat)) := hce 0 (by decide)
   have y1 : wr.cell? ⟨g, o + k * 2 + 1, none⟩ = some (.string (bstr en)) := hce 1 (by decide)
   clear hce
   have hRr := hA2
   generalize badN ⟨es, en⟩ = q at *
   replace hA2 := Lib.hid hA2
   replace hRr := Lib.hid hRr
   go_wp2_with fail
   refine Calls.mono cF.out ?_
   rintro e w2 ⟨rfl, hb⟩
   have B2 := Lib.hid (B.out.trans hb)
   clear cF hb B y0 y1
   dsimp only
   cases hq : q with
   | true =>
    have hR : R = true := by rw [hA2.out, hq]; rfl
    replace hR := Lib.hid hR
    replace hA2 := Lib.hid hA2
    replace hq := Lib.hid hq
    go_wp2_with fail
    go_ret
    exact ⟨⟨_, rfl, by rw [hR.out]; simp⟩, B2.out⟩
   | false =>
    have hR : R = (L.drop (k + 1)).any badN := by rw [hA2.out, hq]; rfl
    replace hR := Lib.hid hR
    replace hA2 := Lib.hid hA2
    replace hq := Lib.hid hq
    go_wp2_with fail
    go_roundg (n - (k + 1))
    case measure => omega
    case rel => exact ⟨k + 1, rfl, by omega, by push_cast; rfl, hR, B2⟩
  ·obtain rfl : k = n := by omega
   have d : decide ((k : Int) < (k : Int)) = false := by simp
   have hR : R = false := by rw [hA.out, List.drop_of_length_le (by rw [hdl.out]; exact Nat.le_refl _)]; rfl
   replace hR := Lib.hid hR
   go_wp2_with fail
   go_ret
   exact ⟨⟨_, rfl, by rw [hR.out]; decide⟩, B.out⟩
set_option maxRecDepth 100000 in
set_option maxHeartbeats 8000000 in
theorem has_nam (L : List (Nat × List Nat)) (n : Nat) (hn : n ≤ 1000) (v : Value) (w : World) (h : SQ EM w 0 v n L) (hL : ∀ p ∈ L, p.2.length ≤ 1000) :
  Calls Try.prog 108 #[v, .func (.func 109) #[] #[]] w fun e w' => e = .returned (.bool (L.any badN)) ∧ BW w w' := by
 have c := Lib.hid (idx_nam L n hn v w h hL)
 obtain ⟨sa, cap, rfl, hnc, hcm⟩ := h.len
 clear h hL
 generalize L.any badN = b at *
 go_enter Try.func108, Try.ntmps108
 go_wp2_with fail
 refine Calls.mono c.out ?_
 rintro e w2 ⟨⟨r, rfl, hr⟩, hb⟩
 replace hb := Lib.hid hb
 dsimp only
 go_wp2_with fail
 go_ret
 exact ⟨rfl, hb.out⟩
set_option maxRecDepth 100000 in
set_option maxHeartbeats 8000000 in
theorem idx_rep (L : List Rep) (n : Nat) (hn : n ≤ 1000) (v : Value) (w : World) (h : SQ ER w 0 v n L) (hL : ∀ p ∈ L, True) :
  Calls Try.prog 129 #[v, .func (.func 111) #[] #[]] w fun e w' => (∃ r : Int, e = .returned (.int .i64 r) ∧ decide (0 ≤ r) = L.any badR) ∧ BW w w' := by
 have hN : ∀ (args : Array Value) (w : World), (callFunc 111 args).run Try.prog w = .ok (.enter 111 args) w := fun _ _ => by kernel_rfl
 obtain ⟨sa, cap, rfl, hnc, hcm⟩ := h.len
 unfold maxLen at hcm
 have hH := Lib.hid h
 have hdl := Lib.hid h.1
 have hLL := Lib.hid hL
 clear h hL
 have hA : L.any badR = (L.drop 0).any badR := by rw [List.drop_zero]
 generalize L.any badR = R at *
 replace hA := Lib.hid hA
 go_enter Try.func129, Try.ntmps129
 go_upto_region 2 with (fail)
 go_loopg [8] n (fun m' i wx => ∃ k : Nat, m' = n - k ∧ k ≤ n ∧ i = .int .i64 (k : Nat) ∧ Hid (R = (L.drop k).any badR) ∧ Hid (BW w wx))
 case atStart => exact ⟨0, by omega, by omega, rfl, hA, BW.refl _⟩
 case round =>
  clear hA
  obtain ⟨k, rfl, hk, rfl, hA, B⟩ := hrel
  by_cases hkn : k < n
  ·have d : decide ((k : Int) < (n : Int)) = true := by simp; omega
   have hkD : k < L.length := by rw [hdl.out]; exact hkn
   obtain ⟨g, o, rfl, -, hc⟩ := sq_cells (hH.out.bw B.out) (by omega)
   obtain ⟨cs, hcs, hce⟩ := hc k hkD
   replace hcs : cs = repV (L[k]) := hcs
   replace hce : ∀ j, j < 7 → wr.cell? ⟨g, o + k * 7 + j, none⟩ = (repV (L[k]))[j]? := fun j hj => by rw [← hcs]; exact hce j hj
   have hA2 := hA.out
   rw [List.drop_eq_getElem_cons hkD, List.any_cons] at hA2
   have cF := Lib.hid (rep1_ok (L[k]) (hLL.out _ (List.getElem_mem hkD)) wr)
   clear hc hA hcs
   generalize L[k] = E at *
   obtain ⟨e1, e2, e3, e4, e5, e6, e7⟩ := E
   have y0 : wr.cell? ⟨g, o + k * 7, none⟩ = some (.int .u32 (e1 : Nat)) := hce 0 (by decide)
   have y1 : wr.cell? ⟨g, o + k * 7 + 1, none⟩ = some (.int .u8 (e2 : Nat)) := hce 1 (by decide)
   have y2 : wr.cell? ⟨g, o + k * 7 + 2, none⟩ = some (.int .i32 e3) := hce 2 (by decide)
   have y3 : wr.cell? ⟨g, o + k * 7 + 3, none⟩ = some (.int .u32 (e4 : Nat)) := hce 3 (by decide)
   have y4 : wr.cell? ⟨g, o + k * 7 + 4, none⟩ = some (.int .u32 (e5 : Nat)) := hce 4 (by decide)
   have y5 : wr.cell? ⟨g, o + k * 7 + 5, none⟩ = some (.int .u32 (e6 : Nat)) := hce 5 (by decide)
   have y6 : wr.cell? ⟨g, o + k * 7 + 6, none⟩ = some (.int .u32 (e7 : Nat)) := hce 6 (by decide)
   clear hce
   have hRr := hA2
   generalize badR ⟨e1, e2, e3, e4, e5, e6, e7⟩ = q at *
   replace hA2 := Lib.hid hA2
   replace hRr := Lib.hid hRr
   go_wp2_with fail
   refine Calls.mono cF.out ?_
   rintro e w2 ⟨rfl, hb⟩
   have B2 := Lib.hid (B.out.trans hb)
   clear cF hb B y0 y1 y2 y3 y4 y5 y6
   dsimp only
   cases hq : q with
   | true =>
    have hR : R = true := by rw [hA2.out, hq]; rfl
    replace hR := Lib.hid hR
    replace hA2 := Lib.hid hA2
    replace hq := Lib.hid hq
    go_wp2_with fail
    go_ret
    exact ⟨⟨_, rfl, by rw [hR.out]; simp⟩, B2.out⟩
   | false =>
    have hR : R = (L.drop (k + 1)).any badR := by rw [hA2.out, hq]; rfl
    replace hR := Lib.hid hR
    replace hA2 := Lib.hid hA2
    replace hq := Lib.hid hq
    go_wp2_with fail
    go_roundg (n - (k + 1))
    case measure => omega
    case rel => exact ⟨k + 1, rfl, by omega, by push_cast; rfl, hR, B2⟩
  ·obtain rfl : k = n := by omega
   have d : decide ((k : Int) < (k : Int)) = false := by simp
   have hR : R = false := by rw [hA.out, List.drop_of_length_le (by rw [hdl.out]; exact Nat.le_refl _)]; rfl
   replace hR := Lib.hid hR
   go_wp2_with fail
   go_ret
   exact ⟨⟨_, rfl, by rw [hR.out]; decide⟩, B.out⟩
set_option maxRecDepth 100000 in
set_option maxHeartbeats 8000000 in
theorem has_rep (L : List Rep) (n : Nat) (hn : n ≤ 1000) (v : Value) (w : World) (h : SQ ER w 0 v n L) (hL : ∀ p ∈ L, True) :
  Calls Try.prog 110 #[v, .func (.func 111) #[] #[]] w fun e w' => e = .returned (.bool (L.any badR)) ∧ BW w w' := by
 have c := Lib.hid (idx_rep L n hn v w h hL)
 obtain ⟨sa, cap, rfl, hnc, hcm⟩ := h.len
 clear h hL
 generalize L.any badR = b at *
 go_enter Try.func110, Try.ntmps110
 go_wp2_with fail
 refine Calls.mono c.out ?_
 rintro e w2 ⟨⟨r, rfl, hr⟩, hb⟩
 replace hb := Lib.hid hb
 dsimp only
 go_wp2_with fail
 go_ret
 exact ⟨rfl, hb.out⟩
end Go.Proofs.Ytcempndfbckcaaa
