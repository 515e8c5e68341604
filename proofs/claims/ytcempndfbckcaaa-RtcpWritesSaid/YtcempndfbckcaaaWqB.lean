/- The reference's Same of two packets whose heads or lengths are not the same. No condition. -/
import Derived.Test.YtcempndfbckcaaaGX7
namespace Go.Proofs.Ytcempndfbckcaaa
open Go.RowKit
set_option maxRecDepth 100000 in
set_option maxHeartbeats 8000000 in
theorem csame_no (k : Int) (s m t st pk oc rt s' m' t' st' pk' oc' rt' : Nat) (ar an as_ al af br bn bs bl bf : Option Addr) (nr nn ns nl nf nr' nn' ns' nl' nf' cr cn cs cl_ cf dr dn ds dl df : Nat) (hD : ¬ (s = s' ∧ m = m' ∧ t = t' ∧ st = st' ∧ pk = pk' ∧ oc = oc' ∧ rt = rt' ∧ nr = nr' ∧ nn = nn' ∧ ns = ns' ∧ nl = nl' ∧ nf = nf')) (w : World) :
  Calls Try.prog 92 #[.agg #[.int .i64 k, .int .u32 (s : Nat), .int .u32 (m : Nat), .int .u64 (t : Nat), .int .u32 (st : Nat), .int .u32 (pk : Nat), .int .u32 (oc : Nat), .slice ar nr cr, .slice an nn cn, .slice as_ ns cs, .slice al nl cl_, .slice af nf cf, .int .u64 (rt : Nat)], .agg #[.int .i64 k, .int .u32 (s' : Nat), .int .u32 (m' : Nat), .int .u64 (t' : Nat), .int .u32 (st' : Nat), .int .u32 (pk' : Nat), .int .u32 (oc' : Nat), .slice br nr' dr, .slice bn nn' dn, .slice bs ns' ds, .slice bl nl' dl, .slice bf nf' df, .int .u64 (rt' : Nat)]] w fun e w' => e = .returned (.bool false) ∧ BW w w' := by
 have BA : BW w (w.alloc (.cells #[.int .i64 k, .int .u32 (s : Nat), .int .u32 (m : Nat), .int .u64 (t : Nat), .int .u32 (st : Nat), .int .u32 (pk : Nat), .int .u32 (oc : Nat), .slice ar nr cr, .slice an nn cn, .slice as_ ns cs, .slice al nl cl_, .slice af nf cf, .int .u64 (rt : Nat)] 111)) := (BW.refl w).alloc
 have BC : BW (w.alloc (.cells #[.int .i64 k, .int .u32 (s : Nat), .int .u32 (m : Nat), .int .u64 (t : Nat), .int .u32 (st : Nat), .int .u32 (pk : Nat), .int .u32 (oc : Nat), .slice ar nr cr, .slice an nn cn, .slice as_ ns cs, .slice al nl cl_, .slice af nf cf, .int .u64 (rt : Nat)] 111)) ((w.alloc (.cells #[.int .i64 k, .int .u32 (s : Nat), .int .u32 (m : Nat), .int .u64 (t : Nat), .int .u32 (st : Nat), .int .u32 (pk : Nat), .int .u32 (oc : Nat), .slice ar nr cr, .slice an nn cn, .slice as_ ns cs, .slice al nl cl_, .slice af nf cf, .int .u64 (rt : Nat)] 111)).alloc (.cells #[.int .i64 k, .int .u32 (s' : Nat), .int .u32 (m' : Nat), .int .u64 (t' : Nat), .int .u32 (st' : Nat), .int .u32 (pk' : Nat), .int .u32 (oc' : Nat), .slice br nr' dr, .slice bn nn' dn, .slice bs ns' ds, .slice bl nl' dl, .slice bf nf' df, .int .u64 (rt' : Nat)] 111)) := (BW.refl _).alloc
 have P := Lib.hid ((HpB.new w (.cells #[.int .i64 k, .int .u32 (s : Nat), .int .u32 (m : Nat), .int .u64 (t : Nat), .int .u32 (st : Nat), .int .u32 (pk : Nat), .int .u32 (oc : Nat), .slice ar nr cr, .slice an nn cn, .slice as_ ns cs, .slice al nl cl_, .slice af nf cf, .int .u64 (rt : Nat)] 111)).bw BC)
 have Q := Lib.hid (show HpB _ (w.heap.size + 1) _ from hp_new (w.alloc (.cells #[.int .i64 k, .int .u32 (s : Nat), .int .u32 (m : Nat), .int .u64 (t : Nat), .int .u32 (st : Nat), .int .u32 (pk : Nat), .int .u32 (oc : Nat), .slice ar nr cr, .slice an nn cn, .slice as_ ns cs, .slice al nl cl_, .slice af nf cf, .int .u64 (rt : Nat)] 111)) (.cells #[.int .i64 k, .int .u32 (s' : Nat), .int .u32 (m' : Nat), .int .u64 (t' : Nat), .int .u32 (st' : Nat), .int .u32 (pk' : Nat), .int .u32 (oc' : Nat), .slice br nr' dr, .slice bn nn' dn, .slice bs ns' ds, .slice bl nl' dl, .slice bf nf' df, .int .u64 (rt' : Nat)] 111) (w.heap.size + 1) (by simp))
 have BD := Lib.hid (BA.trans BC)
 replace BA := Lib.hid BA
 replace BC := Lib.hid BC
 replace hD := Lib.hid hD
 go_enter Try.func92, Try.ntmps92
 go_upto_region 1 with (fail)
 generalize ((w.alloc _).alloc _) = w1 at *
 clear BA BC
 generalize hgp : w.heap.size = gp at *
 replace hgp := Lib.hid hgp
 have z0 := hp_cell (P.out) 0
 have z1 := hp_cell (P.out) 1
 have z2 := hp_cell (P.out) 2
 have z3 := hp_cell (P.out) 3
 have z4 := hp_cell (P.out) 4
 have z5 := hp_cell (P.out) 5
 have z6 := hp_cell (P.out) 6
 have z7 := hp_cell (P.out) 7
 have z8 := hp_cell (P.out) 8
 have z9 := hp_cell (P.out) 9
 have z10 := hp_cell (P.out) 10
 have z11 := hp_cell (P.out) 11
 have z12 := hp_cell (P.out) 12
 simp only [List.getElem?_toArray, List.getElem?_cons_zero, List.getElem?_cons_succ] at z0 z1 z2 z3 z4 z5 z6 z7 z8 z9 z10 z11 z12
 have k0 := hp_cell (Q.out) 0
 have k1 := hp_cell (Q.out) 1
 have k2 := hp_cell (Q.out) 2
 have k3 := hp_cell (Q.out) 3
 have k4 := hp_cell (Q.out) 4
 have k5 := hp_cell (Q.out) 5
 have k6 := hp_cell (Q.out) 6
 have k7 := hp_cell (Q.out) 7
 have k8 := hp_cell (Q.out) 8
 have k9 := hp_cell (Q.out) 9
 have k10 := hp_cell (Q.out) 10
 have k11 := hp_cell (Q.out) 11
 have k12 := hp_cell (Q.out) 12
 simp only [List.getElem?_toArray, List.getElem?_cons_zero, List.getElem?_cons_succ] at k0 k1 k2 k3 k4 k5 k6 k7 k8 k9 k10 k11 k12
 by_cases e_s : s = s'
 rotate_left
 ·have d : ((s : Int) != (s' : Int)) = true := by simp; omega
  clear e_s
  go_wp2_with fail
  go_ret
  exact ⟨rfl, BD.out⟩
 have d_s : ((s : Int) != (s' : Int)) = false := by simp; omega
 replace e_s := Lib.hid e_s
 by_cases e_m : m = m'
 rotate_left
 ·have d : ((m : Int) != (m' : Int)) = true := by simp; omega
  clear e_m
  go_wp2_with fail
  go_ret
  exact ⟨rfl, BD.out⟩
 have d_m : ((m : Int) != (m' : Int)) = false := by simp; omega
 replace e_m := Lib.hid e_m
 by_cases e_t : t = t'
 rotate_left
 ·have d : ((t : Int) != (t' : Int)) = true := by simp; omega
  clear e_t
  go_wp2_with fail
  go_ret
  exact ⟨rfl, BD.out⟩
 have d_t : ((t : Int) != (t' : Int)) = false := by simp; omega
 replace e_t := Lib.hid e_t
 by_cases e_st : st = st'
 rotate_left
 ·have d : ((st : Int) != (st' : Int)) = true := by simp; omega
  clear e_st
  go_wp2_with fail
  go_ret
  exact ⟨rfl, BD.out⟩
 have d_st : ((st : Int) != (st' : Int)) = false := by simp; omega
 replace e_st := Lib.hid e_st
 by_cases e_pk : pk = pk'
 rotate_left
 ·have d : ((pk : Int) != (pk' : Int)) = true := by simp; omega
  clear e_pk
  go_wp2_with fail
  go_ret
  exact ⟨rfl, BD.out⟩
 have d_pk : ((pk : Int) != (pk' : Int)) = false := by simp; omega
 replace e_pk := Lib.hid e_pk
 by_cases e_oc : oc = oc'
 rotate_left
 ·have d : ((oc : Int) != (oc' : Int)) = true := by simp; omega
  clear e_oc
  go_wp2_with fail
  go_ret
  exact ⟨rfl, BD.out⟩
 have d_oc : ((oc : Int) != (oc' : Int)) = false := by simp; omega
 replace e_oc := Lib.hid e_oc
 by_cases e_rt : rt = rt'
 rotate_left
 ·have d : ((rt : Int) != (rt' : Int)) = true := by simp; omega
  clear e_rt
  go_wp2_with fail
  go_ret
  exact ⟨rfl, BD.out⟩
 have d_rt : ((rt : Int) != (rt' : Int)) = false := by simp; omega
 replace e_rt := Lib.hid e_rt
 by_cases e_nr : nr = nr'
 rotate_left
 ·have d : ((nr : Int) != (nr' : Int)) = true := by simp; omega
  clear e_nr
  go_wp2_with fail
  go_ret
  exact ⟨rfl, BD.out⟩
 have d_nr : ((nr : Int) != (nr' : Int)) = false := by simp; omega
 replace e_nr := Lib.hid e_nr
 by_cases e_nn : nn = nn'
 rotate_left
 ·have d : ((nn : Int) != (nn' : Int)) = true := by simp; omega
  clear e_nn
  go_wp2_with fail
  go_ret
  exact ⟨rfl, BD.out⟩
 have d_nn : ((nn : Int) != (nn' : Int)) = false := by simp; omega
 replace e_nn := Lib.hid e_nn
 by_cases e_ns : ns = ns'
 rotate_left
 ·have d : ((ns : Int) != (ns' : Int)) = true := by simp; omega
  clear e_ns
  go_wp2_with fail
  go_ret
  exact ⟨rfl, BD.out⟩
 have d_ns : ((ns : Int) != (ns' : Int)) = false := by simp; omega
 replace e_ns := Lib.hid e_ns
 by_cases e_nl : nl = nl'
 rotate_left
 ·have d : ((nl : Int) != (nl' : Int)) = true := by simp; omega
  clear e_nl
  go_wp2_with fail
  go_ret
  exact ⟨rfl, BD.out⟩
 have d_nl : ((nl : Int) != (nl' : Int)) = false := by simp; omega
 replace e_nl := Lib.hid e_nl
 by_cases e_nf : nf = nf'
 rotate_left
 ·have d : ((nf : Int) != (nf' : Int)) = true := by simp; omega
  clear e_nf
  go_wp2_with fail
  go_ret
  exact ⟨rfl, BD.out⟩
 have d_nf : ((nf : Int) != (nf' : Int)) = false := by simp; omega
 replace e_nf := Lib.hid e_nf
 exact absurd ⟨e_s.out, e_m.out, e_t.out, e_st.out, e_pk.out, e_oc.out, e_rt.out, e_nr.out, e_nn.out, e_ns.out, e_nl.out, e_nf.out⟩ hD.out
end Go.Proofs.Ytcempndfbckcaaa
