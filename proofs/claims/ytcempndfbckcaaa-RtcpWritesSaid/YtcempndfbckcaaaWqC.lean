/- The reference's May of any packet. No condition but the sizes'. -/
import Derived.Test.YtcempndfbckcaaaWqB
import Derived.Test.YtcempndfbckcaaaWqA
import Derived.Test.YtcempndfbckcaaaGX4
import Derived.Test.YtcempndfbckcaaaRcN
import Derived.Deep.CutBlock
namespace Go.Proofs.Ytcempndfbckcaaa
open Go.RowKit
theorem SQ.zero {α : Type} {E : Elt α} (w : World) (n : Nat) (L : List α) (h : L.length = n) (h0 : n = 0) : SQ E w 0 (.slice none 0 0) n L := by
 subst h0
 obtain rfl := List.eq_nil_of_length_eq_zero h
 exact (EQ.nil E 0 w 0).sq
theorem may_eq {P Q R : Prop} [Decidable P] [Decidable Q] [Decidable R] (a b r : Bool) (h1 : P ↔ (Q ∧ R)) (h2 : R → r = true) : (decide P && !a && !b && r) = (decide Q && decide R && !a && !b) := by
 by_cases hR : R
 ·rw [h2 hR, Bool.and_true]
  by_cases hQ : Q
  ·rw [decide_eq_true (h1.2 ⟨hQ, hR⟩), decide_eq_true hQ, decide_eq_true hR]; rfl
  ·rw [decide_eq_false (fun h => hQ (h1.1 h).1), decide_eq_false hQ]; rfl
 ·rw [decide_eq_false (fun h => hR (h1.1 h).2), decide_eq_false hR]; simp
theorem rateB_zero {x : Nat} (h : x = 0) : rateB x = true := by subst h; decide
theorem mk_200 (s m t st pk oc rt : Nat) (reps : List Rep) (nams : List (Nat × List Nat)) (srcs : List Nat) (loss firs : List (Nat × Nat)) : mayC ⟨200, s, m, t, st, pk, oc, reps, nams, srcs, loss, firs, rt⟩ = (decide (reps.length ≤ 16) && decide (s = s ∧ m = 0 ∧ t = t ∧ st = st ∧ pk = pk ∧ oc = oc ∧ rt = 0 ∧ reps.length = reps.length ∧ nams.length = 0 ∧ srcs.length = 0 ∧ loss.length = 0 ∧ firs.length = 0) && !(nams.any badN) && !(reps.any badR)) := by
 unfold mayC
 dsimp only
 rw [if_pos rfl]
 exact may_eq _ _ _ (by constructor <;> intro h <;> omega) (fun h => rateB_zero (by omega))
theorem mk_201 (s m t st pk oc rt : Nat) (reps : List Rep) (nams : List (Nat × List Nat)) (srcs : List Nat) (loss firs : List (Nat × Nat)) : mayC ⟨201, s, m, t, st, pk, oc, reps, nams, srcs, loss, firs, rt⟩ = (decide (reps.length ≤ 16) && decide (s = s ∧ m = 0 ∧ t = 0 ∧ st = 0 ∧ pk = 0 ∧ oc = 0 ∧ rt = 0 ∧ reps.length = reps.length ∧ nams.length = 0 ∧ srcs.length = 0 ∧ loss.length = 0 ∧ firs.length = 0) && !(nams.any badN) && !(reps.any badR)) := by
 unfold mayC
 dsimp only
 rw [if_neg (by decide)]
 rw [if_pos rfl]
 exact may_eq _ _ _ (by constructor <;> intro h <;> omega) (fun h => rateB_zero (by omega))
theorem mk_202 (s m t st pk oc rt : Nat) (reps : List Rep) (nams : List (Nat × List Nat)) (srcs : List Nat) (loss firs : List (Nat × Nat)) : mayC ⟨202, s, m, t, st, pk, oc, reps, nams, srcs, loss, firs, rt⟩ = (decide (nams.length ≤ 16) && decide (s = 0 ∧ m = 0 ∧ t = 0 ∧ st = 0 ∧ pk = 0 ∧ oc = 0 ∧ rt = 0 ∧ reps.length = 0 ∧ nams.length = nams.length ∧ srcs.length = 0 ∧ loss.length = 0 ∧ firs.length = 0) && !(nams.any badN) && !(reps.any badR)) := by
 unfold mayC
 dsimp only
 rw [if_neg (by decide)]
 rw [if_neg (by decide)]
 rw [if_pos rfl]
 exact may_eq _ _ _ (by constructor <;> intro h <;> omega) (fun h => rateB_zero (by omega))
theorem mk_203 (s m t st pk oc rt : Nat) (reps : List Rep) (nams : List (Nat × List Nat)) (srcs : List Nat) (loss firs : List (Nat × Nat)) : mayC ⟨203, s, m, t, st, pk, oc, reps, nams, srcs, loss, firs, rt⟩ = (decide (srcs.length ≤ 16) && decide (s = 0 ∧ m = 0 ∧ t = 0 ∧ st = 0 ∧ pk = 0 ∧ oc = 0 ∧ rt = 0 ∧ reps.length = 0 ∧ nams.length = 0 ∧ srcs.length = srcs.length ∧ loss.length = 0 ∧ firs.length = 0) && !(nams.any badN) && !(reps.any badR)) := by
 unfold mayC
 dsimp only
 rw [if_neg (by decide)]
 rw [if_neg (by decide)]
 rw [if_neg (by decide)]
 rw [if_pos rfl]
 exact may_eq _ _ _ (by constructor <;> intro h <;> omega) (fun h => rateB_zero (by omega))
theorem mk_1 (s m t st pk oc rt : Nat) (reps : List Rep) (nams : List (Nat × List Nat)) (srcs : List Nat) (loss firs : List (Nat × Nat)) (hn : loss.length ≠ 0) : mayC ⟨1, s, m, t, st, pk, oc, reps, nams, srcs, loss, firs, rt⟩ = (decide (loss.length ≤ 16) && decide (s = s ∧ m = m ∧ t = 0 ∧ st = 0 ∧ pk = 0 ∧ oc = 0 ∧ rt = 0 ∧ reps.length = 0 ∧ nams.length = 0 ∧ srcs.length = 0 ∧ loss.length = loss.length ∧ firs.length = 0) && !(nams.any badN) && !(reps.any badR)) := by
 unfold mayC
 dsimp only
 rw [if_neg (by decide)]
 rw [if_neg (by decide)]
 rw [if_neg (by decide)]
 rw [if_neg (by decide)]
 rw [if_pos rfl]
 rw [decide_eq_false hn, Bool.not_false, Bool.and_true]
 exact may_eq _ _ _ (by constructor <;> intro h <;> omega) (fun h => rateB_zero (by omega))
theorem mz_1 (s m t st pk oc rt : Nat) (reps : List Rep) (nams : List (Nat × List Nat)) (srcs : List Nat) (loss firs : List (Nat × Nat)) (hn : loss.length = 0) : mayC ⟨1, s, m, t, st, pk, oc, reps, nams, srcs, loss, firs, rt⟩ = false := by
 unfold mayC
 dsimp only
 rw [if_neg (by decide)]
 rw [if_neg (by decide)]
 rw [if_neg (by decide)]
 rw [if_neg (by decide)]
 rw [if_pos rfl, decide_eq_true hn]
 simp
theorem mk_2 (s m t st pk oc rt : Nat) (reps : List Rep) (nams : List (Nat × List Nat)) (srcs : List Nat) (loss firs : List (Nat × Nat)) : mayC ⟨2, s, m, t, st, pk, oc, reps, nams, srcs, loss, firs, rt⟩ = (decide (0 ≤ 16) && decide (s = s ∧ m = m ∧ t = 0 ∧ st = 0 ∧ pk = 0 ∧ oc = 0 ∧ rt = 0 ∧ reps.length = 0 ∧ nams.length = 0 ∧ srcs.length = 0 ∧ loss.length = 0 ∧ firs.length = 0) && !(nams.any badN) && !(reps.any badR)) := by
 unfold mayC
 dsimp only
 rw [if_neg (by decide)]
 rw [if_neg (by decide)]
 rw [if_neg (by decide)]
 rw [if_neg (by decide)]
 rw [if_neg (by decide)]
 rw [if_pos rfl]
 exact may_eq _ _ _ (by constructor <;> intro h <;> omega) (fun h => rateB_zero (by omega))
theorem mk_3 (s m t st pk oc rt : Nat) (reps : List Rep) (nams : List (Nat × List Nat)) (srcs : List Nat) (loss firs : List (Nat × Nat)) (hn : firs.length ≠ 0) : mayC ⟨3, s, m, t, st, pk, oc, reps, nams, srcs, loss, firs, rt⟩ = (decide (firs.length ≤ 16) && decide (s = s ∧ m = 0 ∧ t = 0 ∧ st = 0 ∧ pk = 0 ∧ oc = 0 ∧ rt = 0 ∧ reps.length = 0 ∧ nams.length = 0 ∧ srcs.length = 0 ∧ loss.length = 0 ∧ firs.length = firs.length) && !(nams.any badN) && !(reps.any badR)) := by
 unfold mayC
 dsimp only
 rw [if_neg (by decide)]
 rw [if_neg (by decide)]
 rw [if_neg (by decide)]
 rw [if_neg (by decide)]
 rw [if_neg (by decide)]
 rw [if_neg (by decide)]
 rw [if_pos rfl]
 rw [decide_eq_false hn, Bool.not_false, Bool.and_true]
 exact may_eq _ _ _ (by constructor <;> intro h <;> omega) (fun h => rateB_zero (by omega))
theorem mz_3 (s m t st pk oc rt : Nat) (reps : List Rep) (nams : List (Nat × List Nat)) (srcs : List Nat) (loss firs : List (Nat × Nat)) (hn : firs.length = 0) : mayC ⟨3, s, m, t, st, pk, oc, reps, nams, srcs, loss, firs, rt⟩ = false := by
 unfold mayC
 dsimp only
 rw [if_neg (by decide)]
 rw [if_neg (by decide)]
 rw [if_neg (by decide)]
 rw [if_neg (by decide)]
 rw [if_neg (by decide)]
 rw [if_neg (by decide)]
 rw [if_pos rfl, decide_eq_true hn]
 simp
theorem mk_4 (s m t st pk oc rt : Nat) (reps : List Rep) (nams : List (Nat × List Nat)) (srcs : List Nat) (loss firs : List (Nat × Nat)) (hn : rateB rt = true) : mayC ⟨4, s, m, t, st, pk, oc, reps, nams, srcs, loss, firs, rt⟩ = (decide (srcs.length ≤ 16) && decide (s = s ∧ m = 0 ∧ t = 0 ∧ st = 0 ∧ pk = 0 ∧ oc = 0 ∧ rt = rt ∧ reps.length = 0 ∧ nams.length = 0 ∧ srcs.length = srcs.length ∧ loss.length = 0 ∧ firs.length = 0) && !(nams.any badN) && !(reps.any badR)) := by
 unfold mayC
 dsimp only
 rw [if_neg (by decide)]
 rw [if_neg (by decide)]
 rw [if_neg (by decide)]
 rw [if_neg (by decide)]
 rw [if_neg (by decide)]
 rw [if_neg (by decide)]
 rw [if_neg (by decide)]
 rw [if_pos rfl]
 exact may_eq _ _ _ (by constructor <;> intro h <;> omega) (fun h => hn)
theorem mz_4 (s m t st pk oc rt : Nat) (reps : List Rep) (nams : List (Nat × List Nat)) (srcs : List Nat) (loss firs : List (Nat × Nat)) (hn : rateB rt = false) : mayC ⟨4, s, m, t, st, pk, oc, reps, nams, srcs, loss, firs, rt⟩ = false := by
 unfold mayC
 dsimp only
 rw [if_neg (by decide)]
 rw [if_neg (by decide)]
 rw [if_neg (by decide)]
 rw [if_neg (by decide)]
 rw [if_neg (by decide)]
 rw [if_neg (by decide)]
 rw [if_neg (by decide)]
 rw [if_pos rfl, hn, Bool.and_false]
set_option maxRecDepth 100000 in
set_option maxHeartbeats 8000000 in
theorem rmay_gen (k : Int) (s m t st pk oc rt : Nat) (ar an as_ al af : Option Addr) (nr nn ns nl nf cr cn cs cl_ cf : Nat) (hrt : rt < 18446744073709551616) (hn : nr ≤ 100 ∧ nn ≤ 100 ∧ ns ≤ 100 ∧ nl ≤ 100 ∧ nf ≤ 100) (reps : List Rep) (nams : List (Nat × List Nat)) (srcs : List Nat) (loss firs : List (Nat × Nat)) (hnm : ∀ p ∈ nams, p.2.length ≤ 1000) (w : World) (r1 : SQ ER w 0 (.slice ar nr cr) nr reps) (r2 : SQ EM w 0 (.slice an nn cn) nn nams) (r3 : SQ ES w 0 (.slice as_ ns cs) ns srcs) (r4 : SQ EO w 0 (.slice al nl cl_) nl loss) (r5 : SQ EF w 0 (.slice af nf cf) nf firs) :
  Calls Try.prog 86 #[.agg #[.int .i64 k, .int .u32 (s : Nat), .int .u32 (m : Nat), .int .u64 (t : Nat), .int .u32 (st : Nat), .int .u32 (pk : Nat), .int .u32 (oc : Nat), .slice ar nr cr, .slice an nn cn, .slice as_ ns cs, .slice al nl cl_, .slice af nf cf, .int .u64 (rt : Nat)]] w fun e w' => e = .returned (.bool (mayC ⟨k, s, m, t, st, pk, oc, reps, nams, srcs, loss, firs, rt⟩)) ∧ BW w w' := by
 obtain ⟨n1, n2, n3, n4, n5⟩ := hn
 obtain ⟨M, hM⟩ : ∃ M, mayC ⟨k, s, m, t, st, pk, oc, reps, nams, srcs, loss, firs, rt⟩ = M := ⟨_, rfl⟩
 rw [hM]
 obtain ⟨AN, hAN⟩ : ∃ AN, nams.any badN = AN := ⟨_, rfl⟩
 obtain ⟨AR, hAR⟩ : ∃ AR, reps.any badR = AR := ⟨_, rfl⟩
 have l1 := Lib.hid r1.1
 have l2 := Lib.hid r2.1
 have l3 := Lib.hid r3.1
 have l4 := Lib.hid r4.1
 have l5 := Lib.hid r5.1
 have c0 := fun wz => Lib.hid (rrate_ok rt hrt wz)
 have hrtH := Lib.hid hrt
 have hsh := Lib.hid (rate_back rt hrt)
 have hrb : Hid (rateB rt = decide (manN rt * 2 ^ expN rt = rt ∧ rt < 9223372036854775808)) := rfl
 generalize hmn : manN rt = mn at *
 generalize hex_ : expN rt = ex at *
 have hexl : ex ≤ 46 := hsh.out.2.2
 have BA : BW w (w.alloc (.cells #[.int .i64 k, .int .u32 (s : Nat), .int .u32 (m : Nat), .int .u64 (t : Nat), .int .u32 (st : Nat), .int .u32 (pk : Nat), .int .u32 (oc : Nat), .slice ar nr cr, .slice an nn cn, .slice as_ ns cs, .slice al nl cl_, .slice af nf cf, .int .u64 (rt : Nat)] 111)) := (BW.refl w).alloc
 have P := Lib.hid (HpB.new w (.cells #[.int .i64 k, .int .u32 (s : Nat), .int .u32 (m : Nat), .int .u64 (t : Nat), .int .u32 (st : Nat), .int .u32 (pk : Nat), .int .u32 (oc : Nat), .slice ar nr cr, .slice an nn cn, .slice as_ ns cs, .slice al nl cl_, .slice af nf cf, .int .u64 (rt : Nat)] 111))
 have B := Lib.hid BA
 replace BA := Lib.hid BA
 replace hM := Lib.hid hM
 replace hAN := Lib.hid hAN
 replace hAR := Lib.hid hAR
 replace hnm := Lib.hid hnm
 replace r1 := Lib.hid r1
 replace r2 := Lib.hid r2
 replace r3 := Lib.hid r3
 replace r4 := Lib.hid r4
 replace r5 := Lib.hid r5
 replace hmn := Lib.hid hmn
 replace hex_ := Lib.hid hex_
 clear hrt
 go_enter Try.func86, Try.ntmps86
 go_upto_region 1 with (fail)
 generalize (w.alloc _) = w1 at *
 generalize hgp : w.heap.size = gp at *
 clear BA
 have hgpl := Lib.hid P.out.lt
 have BZ : BW w1 (w1.alloc (.cells #[.int .i64 k, .int .u32 0, .int .u32 0, .int .u64 0, .int .u32 0, .int .u32 0, .int .u32 0, .slice none 0 0, .slice none 0 0, .slice none 0 0, .slice none 0 0, .slice none 0 0, .int .u64 0] 111)) := (BW.refl w1).alloc
 have D1 := Lib.hid (HpB.new w1 (.cells #[.int .i64 k, .int .u32 0, .int .u32 0, .int .u64 0, .int .u32 0, .int .u32 0, .int .u32 0, .slice none 0 0, .slice none 0 0, .slice none 0 0, .slice none 0 0, .slice none 0 0, .int .u64 0] 111))
 have z0 := (hp_cell P.out 0).trans (show _ = some (.int .i64 k) from rfl)
 replace P := Lib.hid (P.out.bw BZ)
 replace B := Lib.hid (B.out.trans BZ)
 have hgd : Hid (gp < w1.heap.size) := hgpl
 replace BZ := Lib.hid BZ
 replace hgp := Lib.hid hgp
 go_upto_region 2 with (refine wpList_store_new rfl 111 _ _ rfl _ #[.int .i64 k, .int .u32 0, .int .u32 0, .int .u64 0, .int .u32 0, .int .u32 0, .int .u32 0, .slice none 0 0, .slice none 0 0, .slice none 0 0, .slice none 0 0, .slice none 0 0, .int .u64 0] _ rfl rfl (by kernel_rfl) rfl rfl ?_)
 generalize (w1.alloc _) = w2 at *
 clear z0 BZ
 generalize w1.heap.size = gd at *
 have z0 := (hp_cell P.out 0).trans (show _ = some (.int .i64 k) from rfl)
 go_upto_block 0 with (fail)
 clear z0
 go_cut [4] (fun vn wc => ∃ (n : Nat) (s' m' t' st' pk' oc' rt' nr' nn' ns' nl' nf' : Nat) (br bn bs bl bf : Option Addr) (dr dn ds dl df : Nat), vn = .int .i64 (n : Nat) ∧ n ≤ 1000 ∧ Hid (HpB wc gd (.cells #[.int .i64 k, .int .u32 (s' : Nat), .int .u32 (m' : Nat), .int .u64 (t' : Nat), .int .u32 (st' : Nat), .int .u32 (pk' : Nat), .int .u32 (oc' : Nat), .slice br nr' dr, .slice bn nn' dn, .slice bs ns' ds, .slice bl nl' dl, .slice bf nf' df, .int .u64 (rt' : Nat)] 111)) ∧ Hid (HpB wc gp (.cells #[.int .i64 k, .int .u32 (s : Nat), .int .u32 (m : Nat), .int .u64 (t : Nat), .int .u32 (st : Nat), .int .u32 (pk : Nat), .int .u32 (oc : Nat), .slice ar nr cr, .slice an nn cn, .slice as_ ns cs, .slice al nl cl_, .slice af nf cf, .int .u64 (rt : Nat)] 111)) ∧ Hid (M = (decide (n ≤ 16) && decide (s = s' ∧ m = m' ∧ t = t' ∧ st = st' ∧ pk = pk' ∧ oc = oc' ∧ rt = rt' ∧ nr = nr' ∧ nn = nn' ∧ ns = ns' ∧ nl = nl' ∧ nf = nf') && !AN && !AR)) ∧ Hid (nr = nr' → SQ ER wc 0 (.slice br nr' dr) nr reps) ∧ Hid (nn = nn' → SQ EM wc 0 (.slice bn nn' dn) nn nams) ∧ Hid (ns = ns' → SQ ES wc 0 (.slice bs ns' ds) ns srcs) ∧ Hid (nl = nl' → SQ EO wc 0 (.slice bl nl' dl) nl loss) ∧ Hid (nf = nf' → SQ EF wc 0 (.slice bf nf' df) nf firs) ∧ Hid (BW w wc))
 case first =>
  by_cases hk : isKind k = true
  rotate_left
  ·have hk2 : isKind k = false := by simpa using hk
   have hq := of_decide_eq_false hk2
   have d200 : (k == 200) = false := by simp; omega
   have d201 : (k == 201) = false := by simp; omega
   have d202 : (k == 202) = false := by simp; omega
   have d203 : (k == 203) = false := by simp; omega
   have d1 : (k == 1) = false := by simp; omega
   have d2 : (k == 2) = false := by simp; omega
   have d3 : (k == 3) = false := by simp; omega
   have d4 : (k == 4) = false := by simp; omega
   have hF : Hid (M = false) := by
    show _ = _
    rw [← hM.out]
    unfold mayC
    dsimp only
    repeat (rw [if_neg (by omega)])
   clear hk hk2 hq
   go_wp2_with fail
   go_ret
   exact ⟨by rw [hF.out]; rfl, B.out⟩
  have hL1 := l1.out
  have hL2 := l2.out
  have hL3 := l3.out
  have hL4 := l4.out
  have hL5 := l5.out
  have z0 := hp_cell (P.out) 0
  have z1 := hp_cell (P.out) 1
  have z2 := hp_cell (P.out) 2
  have z3 := hp_cell (P.out) 3
  have z4 := hp_cell (P.out) 4
  have z5 := hp_cell (P.out) 5
  have z6 := hp_cell (P.out) 6
  have z7 := hp_cell (P.out) 7
  have z8 := hp_cell (P.out) 8
  have z9 := hp_cell (P.out) 9
  have z10 := hp_cell (P.out) 10
  have z11 := hp_cell (P.out) 11
  have z12 := hp_cell (P.out) 12
  simp only [List.getElem?_toArray, List.getElem?_cons_zero, List.getElem?_cons_succ] at z0 z1 z2 z3 z4 z5 z6 z7 z8 z9 z10 z11 z12
  have k0 := hp_cell (D1.out) 0
  have f0 := hp_frz (D1.out) 0
  have k1 := hp_cell (D1.out) 1
  have f1 := hp_frz (D1.out) 1
  have k2 := hp_cell (D1.out) 2
  have f2 := hp_frz (D1.out) 2
  have k3 := hp_cell (D1.out) 3
  have f3 := hp_frz (D1.out) 3
  have k4 := hp_cell (D1.out) 4
  have f4 := hp_frz (D1.out) 4
  have k5 := hp_cell (D1.out) 5
  have f5 := hp_frz (D1.out) 5
  have k6 := hp_cell (D1.out) 6
  have f6 := hp_frz (D1.out) 6
  have k7 := hp_cell (D1.out) 7
  have f7 := hp_frz (D1.out) 7
  have k8 := hp_cell (D1.out) 8
  have f8 := hp_frz (D1.out) 8
  have k9 := hp_cell (D1.out) 9
  have f9 := hp_frz (D1.out) 9
  have k10 := hp_cell (D1.out) 10
  have f10 := hp_frz (D1.out) 10
  have k11 := hp_cell (D1.out) 11
  have f11 := hp_frz (D1.out) 11
  have k12 := hp_cell (D1.out) 12
  have f12 := hp_frz (D1.out) 12
  simp only [List.getElem?_toArray, List.getElem?_cons_zero, List.getElem?_cons_succ] at k0 k1 k2 k3 k4 k5 k6 k7 k8 k9 k10 k11 k12
  have hltg := hgd.out
  rcases isKind_cases hk with rfl | rfl | rfl | rfl | rfl | rfl | rfl | rfl
  ·replace hk := Lib.hid hk
   have TS := Lib.hid ((((((still_sc w2 gd 1 (.int .u32 (s : Nat))).trans (still_sc (w2.setCell ⟨gd, 1, none⟩ (.int .u32 (s : Nat))) gd 3 (.int .u64 (t : Nat)))).trans (still_sc ((w2.setCell ⟨gd, 1, none⟩ (.int .u32 (s : Nat))).setCell ⟨gd, 3, none⟩ (.int .u64 (t : Nat))) gd 4 (.int .u32 (st : Nat)))).trans (still_sc (((w2.setCell ⟨gd, 1, none⟩ (.int .u32 (s : Nat))).setCell ⟨gd, 3, none⟩ (.int .u64 (t : Nat))).setCell ⟨gd, 4, none⟩ (.int .u32 (st : Nat))) gd 5 (.int .u32 (pk : Nat)))).trans (still_sc ((((w2.setCell ⟨gd, 1, none⟩ (.int .u32 (s : Nat))).setCell ⟨gd, 3, none⟩ (.int .u64 (t : Nat))).setCell ⟨gd, 4, none⟩ (.int .u32 (st : Nat))).setCell ⟨gd, 5, none⟩ (.int .u32 (pk : Nat))) gd 6 (.int .u32 (oc : Nat)))).trans (still_sc (((((w2.setCell ⟨gd, 1, none⟩ (.int .u32 (s : Nat))).setCell ⟨gd, 3, none⟩ (.int .u64 (t : Nat))).setCell ⟨gd, 4, none⟩ (.int .u32 (st : Nat))).setCell ⟨gd, 5, none⟩ (.int .u32 (pk : Nat))).setCell ⟨gd, 6, none⟩ (.int .u32 (oc : Nat))) gd 7 (.slice ar nr cr)))
   have D2 : Hid (HpB ((((((w2.setCell ⟨gd, 1, none⟩ (.int .u32 (s : Nat))).setCell ⟨gd, 3, none⟩ (.int .u64 (t : Nat))).setCell ⟨gd, 4, none⟩ (.int .u32 (st : Nat))).setCell ⟨gd, 5, none⟩ (.int .u32 (pk : Nat))).setCell ⟨gd, 6, none⟩ (.int .u32 (oc : Nat))).setCell ⟨gd, 7, none⟩ (.slice ar nr cr)) gd (.cells #[.int .i64 200, .int .u32 (s : Nat), .int .u32 0, .int .u64 (t : Nat), .int .u32 (st : Nat), .int .u32 (pk : Nat), .int .u32 (oc : Nat), .slice ar nr cr, .slice none 0 0, .slice none 0 0, .slice none 0 0, .slice none 0 0, .int .u64 0] 111)) := Lib.hid (hp_set (hp_set (hp_set (hp_set (hp_set (hp_set D1.out 1 (.int .u32 (s : Nat))) 3 (.int .u64 (t : Nat))) 4 (.int .u32 (st : Nat))) 5 (.int .u32 (pk : Nat))) 6 (.int .u32 (oc : Nat))) 7 (.slice ar nr cr))
   have hMk : Hid (M = (decide (nr ≤ 16) && decide (s = s ∧ m = 0 ∧ t = t ∧ st = st ∧ pk = pk ∧ oc = oc ∧ rt = 0 ∧ nr = nr ∧ nn = 0 ∧ ns = 0 ∧ nl = 0 ∧ nf = 0) && !AN && !AR)) := by
    show _ = _
    rw [← hM.out, ← hAN.out, ← hAR.out]
    have h := mk_200 s m t st pk oc rt reps nams srcs loss firs
    simp only [hL1, hL2, hL3, hL4, hL5, eq_self] at h ⊢
    exact h
   clear hL1 hL2 hL3 hL4 hL5
   go_wp2_with fail
   go_meet
   replace B := Lib.hid (BW.stP B.out TS.out (fun j hj => by obtain rfl : j = gd := (by simpa using hj); have := hgd.out; have := hgp.out; omega))
   have P3 := Lib.hid (P.out.st TS.out (by have := hgd.out; simp; omega))
   have hb := B.out
   exact ⟨nr, s, 0, t, st, pk, oc, 0, nr, 0, 0, 0, 0, ar, none, none, none, none, cr, 0, 0, 0, 0, rfl, by omega, D2, P3, (by show _ = _; rw [hMk.out]; simp only [eq_self]), Lib.hid (fun _ => r1.out.bw hb), Lib.hid (fun h => SQ.zero _ _ _ l2.out h), Lib.hid (fun h => SQ.zero _ _ _ l3.out h), Lib.hid (fun h => SQ.zero _ _ _ l4.out h), Lib.hid (fun h => SQ.zero _ _ _ l5.out h), B⟩
  ·replace hk := Lib.hid hk
   have TS := Lib.hid ((still_sc w2 gd 1 (.int .u32 (s : Nat))).trans (still_sc (w2.setCell ⟨gd, 1, none⟩ (.int .u32 (s : Nat))) gd 7 (.slice ar nr cr)))
   have D2 : Hid (HpB ((w2.setCell ⟨gd, 1, none⟩ (.int .u32 (s : Nat))).setCell ⟨gd, 7, none⟩ (.slice ar nr cr)) gd (.cells #[.int .i64 201, .int .u32 (s : Nat), .int .u32 0, .int .u64 0, .int .u32 0, .int .u32 0, .int .u32 0, .slice ar nr cr, .slice none 0 0, .slice none 0 0, .slice none 0 0, .slice none 0 0, .int .u64 0] 111)) := Lib.hid (hp_set (hp_set D1.out 1 (.int .u32 (s : Nat))) 7 (.slice ar nr cr))
   have hMk : Hid (M = (decide (nr ≤ 16) && decide (s = s ∧ m = 0 ∧ t = 0 ∧ st = 0 ∧ pk = 0 ∧ oc = 0 ∧ rt = 0 ∧ nr = nr ∧ nn = 0 ∧ ns = 0 ∧ nl = 0 ∧ nf = 0) && !AN && !AR)) := by
    show _ = _
    rw [← hM.out, ← hAN.out, ← hAR.out]
    have h := mk_201 s m t st pk oc rt reps nams srcs loss firs
    simp only [hL1, hL2, hL3, hL4, hL5, eq_self] at h ⊢
    exact h
   clear hL1 hL2 hL3 hL4 hL5
   go_wp2_with fail
   go_meet
   replace B := Lib.hid (BW.stP B.out TS.out (fun j hj => by obtain rfl : j = gd := (by simpa using hj); have := hgd.out; have := hgp.out; omega))
   have P3 := Lib.hid (P.out.st TS.out (by have := hgd.out; simp; omega))
   have hb := B.out
   exact ⟨nr, s, 0, 0, 0, 0, 0, 0, nr, 0, 0, 0, 0, ar, none, none, none, none, cr, 0, 0, 0, 0, rfl, by omega, D2, P3, (by show _ = _; rw [hMk.out]; simp only [eq_self]), Lib.hid (fun _ => r1.out.bw hb), Lib.hid (fun h => SQ.zero _ _ _ l2.out h), Lib.hid (fun h => SQ.zero _ _ _ l3.out h), Lib.hid (fun h => SQ.zero _ _ _ l4.out h), Lib.hid (fun h => SQ.zero _ _ _ l5.out h), B⟩
  ·replace hk := Lib.hid hk
   have TS := Lib.hid (still_sc w2 gd 8 (.slice an nn cn))
   have D2 : Hid (HpB (w2.setCell ⟨gd, 8, none⟩ (.slice an nn cn)) gd (.cells #[.int .i64 202, .int .u32 0, .int .u32 0, .int .u64 0, .int .u32 0, .int .u32 0, .int .u32 0, .slice none 0 0, .slice an nn cn, .slice none 0 0, .slice none 0 0, .slice none 0 0, .int .u64 0] 111)) := Lib.hid (hp_set D1.out 8 (.slice an nn cn))
   have hMk : Hid (M = (decide (nn ≤ 16) && decide (s = 0 ∧ m = 0 ∧ t = 0 ∧ st = 0 ∧ pk = 0 ∧ oc = 0 ∧ rt = 0 ∧ nr = 0 ∧ nn = nn ∧ ns = 0 ∧ nl = 0 ∧ nf = 0) && !AN && !AR)) := by
    show _ = _
    rw [← hM.out, ← hAN.out, ← hAR.out]
    have h := mk_202 s m t st pk oc rt reps nams srcs loss firs
    simp only [hL1, hL2, hL3, hL4, hL5, eq_self] at h ⊢
    exact h
   clear hL1 hL2 hL3 hL4 hL5
   go_wp2_with fail
   go_meet
   replace B := Lib.hid (BW.stP B.out TS.out (fun j hj => by obtain rfl : j = gd := (by simpa using hj); have := hgd.out; have := hgp.out; omega))
   have P3 := Lib.hid (P.out.st TS.out (by have := hgd.out; simp; omega))
   have hb := B.out
   exact ⟨nn, 0, 0, 0, 0, 0, 0, 0, 0, nn, 0, 0, 0, none, an, none, none, none, 0, cn, 0, 0, 0, rfl, by omega, D2, P3, (by show _ = _; rw [hMk.out]; simp only [eq_self]), Lib.hid (fun h => SQ.zero _ _ _ l1.out h), Lib.hid (fun _ => r2.out.bw hb), Lib.hid (fun h => SQ.zero _ _ _ l3.out h), Lib.hid (fun h => SQ.zero _ _ _ l4.out h), Lib.hid (fun h => SQ.zero _ _ _ l5.out h), B⟩
  ·replace hk := Lib.hid hk
   have TS := Lib.hid (still_sc w2 gd 9 (.slice as_ ns cs))
   have D2 : Hid (HpB (w2.setCell ⟨gd, 9, none⟩ (.slice as_ ns cs)) gd (.cells #[.int .i64 203, .int .u32 0, .int .u32 0, .int .u64 0, .int .u32 0, .int .u32 0, .int .u32 0, .slice none 0 0, .slice none 0 0, .slice as_ ns cs, .slice none 0 0, .slice none 0 0, .int .u64 0] 111)) := Lib.hid (hp_set D1.out 9 (.slice as_ ns cs))
   have hMk : Hid (M = (decide (ns ≤ 16) && decide (s = 0 ∧ m = 0 ∧ t = 0 ∧ st = 0 ∧ pk = 0 ∧ oc = 0 ∧ rt = 0 ∧ nr = 0 ∧ nn = 0 ∧ ns = ns ∧ nl = 0 ∧ nf = 0) && !AN && !AR)) := by
    show _ = _
    rw [← hM.out, ← hAN.out, ← hAR.out]
    have h := mk_203 s m t st pk oc rt reps nams srcs loss firs
    simp only [hL1, hL2, hL3, hL4, hL5, eq_self] at h ⊢
    exact h
   clear hL1 hL2 hL3 hL4 hL5
   go_wp2_with fail
   go_meet
   replace B := Lib.hid (BW.stP B.out TS.out (fun j hj => by obtain rfl : j = gd := (by simpa using hj); have := hgd.out; have := hgp.out; omega))
   have P3 := Lib.hid (P.out.st TS.out (by have := hgd.out; simp; omega))
   have hb := B.out
   exact ⟨ns, 0, 0, 0, 0, 0, 0, 0, 0, 0, ns, 0, 0, none, none, as_, none, none, 0, 0, cs, 0, 0, rfl, by omega, D2, P3, (by show _ = _; rw [hMk.out]; simp only [eq_self]), Lib.hid (fun h => SQ.zero _ _ _ l1.out h), Lib.hid (fun h => SQ.zero _ _ _ l2.out h), Lib.hid (fun _ => r3.out.bw hb), Lib.hid (fun h => SQ.zero _ _ _ l4.out h), Lib.hid (fun h => SQ.zero _ _ _ l5.out h), B⟩
  ·replace hk := Lib.hid hk
   by_cases hz : nl = 0
   ·have d : ((nl : Int) == 0) = true := by simp; omega
    have hF : Hid (M = false) := by show _ = _; rw [← hM.out]; exact mz_1 _ _ _ _ _ _ _ _ _ _ _ _ (by omega)
    have TS := (((still_sc w2 gd 1 (.int .u32 (s : Nat))).trans (still_sc (w2.setCell ⟨gd, 1, none⟩ (.int .u32 (s : Nat))) gd 2 (.int .u32 (m : Nat)))).trans (still_sc ((w2.setCell ⟨gd, 1, none⟩ (.int .u32 (s : Nat))).setCell ⟨gd, 2, none⟩ (.int .u32 (m : Nat))) gd 10 (.slice al nl cl_)))
    replace B := Lib.hid (BW.stP B.out TS (fun j hj => by obtain rfl : j = gd := (by simpa using hj); have := hgd.out; have := hgp.out; omega))
    clear hz hL1 hL2 hL3 hL4 hL5 TS
    go_wp2_with fail
    go_ret
    exact ⟨by rw [hF.out]; rfl, B.out⟩
   have d : ((nl : Int) == 0) = false := by simp; omega
   have TS := Lib.hid (((still_sc w2 gd 1 (.int .u32 (s : Nat))).trans (still_sc (w2.setCell ⟨gd, 1, none⟩ (.int .u32 (s : Nat))) gd 2 (.int .u32 (m : Nat)))).trans (still_sc ((w2.setCell ⟨gd, 1, none⟩ (.int .u32 (s : Nat))).setCell ⟨gd, 2, none⟩ (.int .u32 (m : Nat))) gd 10 (.slice al nl cl_)))
   have D2 : Hid (HpB (((w2.setCell ⟨gd, 1, none⟩ (.int .u32 (s : Nat))).setCell ⟨gd, 2, none⟩ (.int .u32 (m : Nat))).setCell ⟨gd, 10, none⟩ (.slice al nl cl_)) gd (.cells #[.int .i64 1, .int .u32 (s : Nat), .int .u32 (m : Nat), .int .u64 0, .int .u32 0, .int .u32 0, .int .u32 0, .slice none 0 0, .slice none 0 0, .slice none 0 0, .slice al nl cl_, .slice none 0 0, .int .u64 0] 111)) := Lib.hid (hp_set (hp_set (hp_set D1.out 1 (.int .u32 (s : Nat))) 2 (.int .u32 (m : Nat))) 10 (.slice al nl cl_))
   have hMk : Hid (M = (decide (nl ≤ 16) && decide (s = s ∧ m = m ∧ t = 0 ∧ st = 0 ∧ pk = 0 ∧ oc = 0 ∧ rt = 0 ∧ nr = 0 ∧ nn = 0 ∧ ns = 0 ∧ nl = nl ∧ nf = 0) && !AN && !AR)) := by
    show _ = _
    rw [← hM.out, ← hAN.out, ← hAR.out]
    have h := mk_1 s m t st pk oc rt reps nams srcs loss firs (by omega)
    simp only [hL1, hL2, hL3, hL4, hL5, eq_self] at h ⊢
    exact h
   clear hL1 hL2 hL3 hL4 hL5 hz
   go_wp2_with fail
   go_meet
   replace B := Lib.hid (BW.stP B.out TS.out (fun j hj => by obtain rfl : j = gd := (by simpa using hj); have := hgd.out; have := hgp.out; omega))
   have P3 := Lib.hid (P.out.st TS.out (by have := hgd.out; simp; omega))
   have hb := B.out
   exact ⟨nl, s, m, 0, 0, 0, 0, 0, 0, 0, 0, nl, 0, none, none, none, al, none, 0, 0, 0, cl_, 0, rfl, by omega, D2, P3, (by show _ = _; rw [hMk.out]; simp only [eq_self]), Lib.hid (fun h => SQ.zero _ _ _ l1.out h), Lib.hid (fun h => SQ.zero _ _ _ l2.out h), Lib.hid (fun h => SQ.zero _ _ _ l3.out h), Lib.hid (fun _ => r4.out.bw hb), Lib.hid (fun h => SQ.zero _ _ _ l5.out h), B⟩
  ·replace hk := Lib.hid hk
   have TS := Lib.hid ((still_sc w2 gd 1 (.int .u32 (s : Nat))).trans (still_sc (w2.setCell ⟨gd, 1, none⟩ (.int .u32 (s : Nat))) gd 2 (.int .u32 (m : Nat))))
   have D2 : Hid (HpB ((w2.setCell ⟨gd, 1, none⟩ (.int .u32 (s : Nat))).setCell ⟨gd, 2, none⟩ (.int .u32 (m : Nat))) gd (.cells #[.int .i64 2, .int .u32 (s : Nat), .int .u32 (m : Nat), .int .u64 0, .int .u32 0, .int .u32 0, .int .u32 0, .slice none 0 0, .slice none 0 0, .slice none 0 0, .slice none 0 0, .slice none 0 0, .int .u64 0] 111)) := Lib.hid (hp_set (hp_set D1.out 1 (.int .u32 (s : Nat))) 2 (.int .u32 (m : Nat)))
   have hMk : Hid (M = (decide (0 ≤ 16) && decide (s = s ∧ m = m ∧ t = 0 ∧ st = 0 ∧ pk = 0 ∧ oc = 0 ∧ rt = 0 ∧ nr = 0 ∧ nn = 0 ∧ ns = 0 ∧ nl = 0 ∧ nf = 0) && !AN && !AR)) := by
    show _ = _
    rw [← hM.out, ← hAN.out, ← hAR.out]
    have h := mk_2 s m t st pk oc rt reps nams srcs loss firs
    simp only [hL1, hL2, hL3, hL4, hL5, eq_self] at h ⊢
    exact h
   clear hL1 hL2 hL3 hL4 hL5
   go_wp2_with fail
   go_meet
   replace B := Lib.hid (BW.stP B.out TS.out (fun j hj => by obtain rfl : j = gd := (by simpa using hj); have := hgd.out; have := hgp.out; omega))
   have P3 := Lib.hid (P.out.st TS.out (by have := hgd.out; simp; omega))
   have hb := B.out
   exact ⟨0, s, m, 0, 0, 0, 0, 0, 0, 0, 0, 0, 0, none, none, none, none, none, 0, 0, 0, 0, 0, rfl, by omega, D2, P3, (by show _ = _; rw [hMk.out]; simp only [eq_self]), Lib.hid (fun h => SQ.zero _ _ _ l1.out h), Lib.hid (fun h => SQ.zero _ _ _ l2.out h), Lib.hid (fun h => SQ.zero _ _ _ l3.out h), Lib.hid (fun h => SQ.zero _ _ _ l4.out h), Lib.hid (fun h => SQ.zero _ _ _ l5.out h), B⟩
  ·replace hk := Lib.hid hk
   by_cases hz : nf = 0
   ·have d : ((nf : Int) == 0) = true := by simp; omega
    have hF : Hid (M = false) := by show _ = _; rw [← hM.out]; exact mz_3 _ _ _ _ _ _ _ _ _ _ _ _ (by omega)
    have TS := ((still_sc w2 gd 1 (.int .u32 (s : Nat))).trans (still_sc (w2.setCell ⟨gd, 1, none⟩ (.int .u32 (s : Nat))) gd 11 (.slice af nf cf)))
    replace B := Lib.hid (BW.stP B.out TS (fun j hj => by obtain rfl : j = gd := (by simpa using hj); have := hgd.out; have := hgp.out; omega))
    clear hz hL1 hL2 hL3 hL4 hL5 TS
    go_wp2_with fail
    go_ret
    exact ⟨by rw [hF.out]; rfl, B.out⟩
   have d : ((nf : Int) == 0) = false := by simp; omega
   have TS := Lib.hid ((still_sc w2 gd 1 (.int .u32 (s : Nat))).trans (still_sc (w2.setCell ⟨gd, 1, none⟩ (.int .u32 (s : Nat))) gd 11 (.slice af nf cf)))
   have D2 : Hid (HpB ((w2.setCell ⟨gd, 1, none⟩ (.int .u32 (s : Nat))).setCell ⟨gd, 11, none⟩ (.slice af nf cf)) gd (.cells #[.int .i64 3, .int .u32 (s : Nat), .int .u32 0, .int .u64 0, .int .u32 0, .int .u32 0, .int .u32 0, .slice none 0 0, .slice none 0 0, .slice none 0 0, .slice none 0 0, .slice af nf cf, .int .u64 0] 111)) := Lib.hid (hp_set (hp_set D1.out 1 (.int .u32 (s : Nat))) 11 (.slice af nf cf))
   have hMk : Hid (M = (decide (nf ≤ 16) && decide (s = s ∧ m = 0 ∧ t = 0 ∧ st = 0 ∧ pk = 0 ∧ oc = 0 ∧ rt = 0 ∧ nr = 0 ∧ nn = 0 ∧ ns = 0 ∧ nl = 0 ∧ nf = nf) && !AN && !AR)) := by
    show _ = _
    rw [← hM.out, ← hAN.out, ← hAR.out]
    have h := mk_3 s m t st pk oc rt reps nams srcs loss firs (by omega)
    simp only [hL1, hL2, hL3, hL4, hL5, eq_self] at h ⊢
    exact h
   clear hL1 hL2 hL3 hL4 hL5 hz
   go_wp2_with fail
   go_meet
   replace B := Lib.hid (BW.stP B.out TS.out (fun j hj => by obtain rfl : j = gd := (by simpa using hj); have := hgd.out; have := hgp.out; omega))
   have P3 := Lib.hid (P.out.st TS.out (by have := hgd.out; simp; omega))
   have hb := B.out
   exact ⟨nf, s, 0, 0, 0, 0, 0, 0, 0, 0, 0, 0, nf, none, none, none, none, af, 0, 0, 0, 0, cf, rfl, by omega, D2, P3, (by show _ = _; rw [hMk.out]; simp only [eq_self]), Lib.hid (fun h => SQ.zero _ _ _ l1.out h), Lib.hid (fun h => SQ.zero _ _ _ l2.out h), Lib.hid (fun h => SQ.zero _ _ _ l3.out h), Lib.hid (fun h => SQ.zero _ _ _ l4.out h), Lib.hid (fun _ => r5.out.bw hb), B⟩
  ·replace hk := Lib.hid hk
   have TS := Lib.hid (((still_sc w2 gd 1 (.int .u32 (s : Nat))).trans (still_sc (w2.setCell ⟨gd, 1, none⟩ (.int .u32 (s : Nat))) gd 12 (.int .u64 (rt : Nat)))).trans (still_sc ((w2.setCell ⟨gd, 1, none⟩ (.int .u32 (s : Nat))).setCell ⟨gd, 12, none⟩ (.int .u64 (rt : Nat))) gd 9 (.slice as_ ns cs)))
   have D2 : Hid (HpB (((w2.setCell ⟨gd, 1, none⟩ (.int .u32 (s : Nat))).setCell ⟨gd, 12, none⟩ (.int .u64 (rt : Nat))).setCell ⟨gd, 9, none⟩ (.slice as_ ns cs)) gd (.cells #[.int .i64 4, .int .u32 (s : Nat), .int .u32 0, .int .u64 0, .int .u32 0, .int .u32 0, .int .u32 0, .slice none 0 0, .slice none 0 0, .slice as_ ns cs, .slice none 0 0, .slice none 0 0, .int .u64 (rt : Nat)] 111)) := Lib.hid (hp_set (hp_set (hp_set D1.out 1 (.int .u32 (s : Nat))) 12 (.int .u64 (rt : Nat))) 9 (.slice as_ ns cs))
   replace hL1 := Lib.hid hL1
   replace hL2 := Lib.hid hL2
   replace hL3 := Lib.hid hL3
   replace hL4 := Lib.hid hL4
   replace hL5 := Lib.hid hL5
   go_upto_region 44 with (fail)
   obtain ⟨w3, hw3⟩ : ∃ w3, w3 = (((w2.setCell ⟨gd, 1, none⟩ (.int .u32 (s : Nat))).setCell ⟨gd, 12, none⟩ (.int .u64 (rt : Nat))).setCell ⟨gd, 9, none⟩ (.slice as_ ns cs)) := ⟨_, rfl⟩
   rw [← hw3] at D2 TS ⊢
   replace hw3 := Lib.hid hw3
   clear z0 z1 z2 z3 z4 z5 z6 z7 z8 z9 z10 z11 z12 k0 k1 k2 k3 k4 k5 k6 k7 k8 k9 k10 k11 k12
   clear f0 f1 f2 f3 f4 f5 f6 f7 f8 f9 f10 f11 f12
   have P3 := P.out.st TS.out (by have := hgd.out; simp; omega)
   have z12 := (hp_cell P3 12).trans (show _ = some (.int .u64 (rt : Nat)) from rfl)
   replace P3 := Lib.hid P3
   go_wp2_with fail
   refine Calls.mono (c0 w3).out ?_
   rintro e w' ⟨rfl, rfl⟩
   dsimp only
   clear c0
   go_upto_region 46 with (fail)
   clear z12
   obtain ⟨q, hq⟩ : ∃ q, mn * 2 ^ ex = q := ⟨_, rfl⟩
   have hq2 : Hid (q ≤ rt) := by have := hsh.out.1; rw [hq] at this; exact this
   have hpw : ∀ j, j ≤ ex → mn * 2 ^ j ≤ rt := fun j hj => Nat.le_trans (Nat.mul_le_mul_left _ (Nat.pow_le_pow_right (by decide) hj)) hsh.out.1
   have hps : ∀ j, mn * 2 ^ (j + 1) = mn * 2 ^ j * 2 := fun j => by rw [Nat.pow_succ, Nat.mul_assoc]
   have hrl : rt < 18446744073709551616 := hrtH.out
   have hp0 : Hid (mn * 2 ^ 0 = mn) := by show _ = _; simp
   replace hpw := Lib.hid hpw
   replace hps := Lib.hid hps
   replace hq := Lib.hid hq
   replace hrl := Lib.hid hrl
   go_loopg [5, 7] ex (fun m' a b wx => ∃ j : Nat, m' = ex - j ∧ j ≤ ex ∧ a = .int .u64 (mn * 2 ^ j : Nat) ∧ b = .int .i64 (j : Nat) ∧ Hid (w3 = wx))
   case atStart => exact ⟨0, rfl, by omega, by rw [hp0.out], rfl, rfl⟩
   case round =>
    obtain ⟨j, rfl, hj, rfl, rfl, hw⟩ := hrel
    obtain rfl := hw.out
    by_cases hje : j < ex
    ·have d : decide ((j : Int) < (ex : Int)) = true := by simp; omega
     have h1 := hpw.out (j + 1) hje
     have h2 := hps.out j
     rw [h2] at h1
     generalize mn * 2 ^ j = y at *
     have h3 : Hid (IntKind.u64.wrap ((y : Int) * 2) = ((y * 2 : Nat) : Int)) := by have := hrl.out; show _ = _; rw [IntKind.wrap_u64]; omega
     have h4 := h3.out
     replace h2 := Lib.hid h2
     clear h1
     go_wp2_with fail
     go_roundg (ex - (j + 1))
     case measure => omega
     case rel => exact ⟨j + 1, rfl, by omega, by rw [h2.out]; first | rfl | exact congrArg _ (by push_cast; rfl), by push_cast; rfl, rfl⟩
    ·obtain rfl : j = ex := by omega
     have d : decide ((j : Int) < (j : Int)) = false := by simp
     rw [hq.out]
     have z12 := (hp_cell P3.out 12).trans (show _ = some (.int .u64 (rt : Nat)) from rfl)
     have hfail : ¬ (q = rt ∧ rt < 9223372036854775808) → Hid (M = false) := fun h => by show _ = _; rw [← hM.out]; exact mz_4 _ _ _ _ _ _ _ _ _ _ _ _ (by rw [hrb.out, hq.out]; exact decide_eq_false h)
     have hgood : q = rt ∧ rt < 9223372036854775808 → Hid (rateB rt = true) := fun h => by show _ = _; rw [hrb.out, hq.out]; exact decide_eq_true h
     replace B := Lib.hid (BW.stP B.out TS.out (fun j hj => by obtain rfl : j = gd := (by simpa using hj); have := hgd.out; have := hgp.out; omega))
     replace hfail := Lib.hid hfail
     replace hgood := Lib.hid hgood
     obtain ⟨y, hy⟩ : ∃ y : Nat, rt / 9223372036854775808 = y := ⟨_, rfl⟩
     have e63 : (rt : Int) / 9223372036854775808 = (y : Int) := by omega
     have hy0 : Hid (rt < 9223372036854775808 ↔ y = 0) := by show _ ↔ _; omega
     replace hy := Lib.hid hy
     by_cases h1 : q = rt
     rotate_left
     ·have e1 : ((q : Int) != (rt : Int)) = true := by simp; omega
      have hF := hfail.out (fun h => h1 h.1)
      clear h1 hfail hgood hy0
      go_wp2_with fail
      go_ret
      exact ⟨by rw [hF.out]; rfl, B.out⟩
     have e1 : ((q : Int) != (rt : Int)) = false := by simp; omega
     by_cases h2 : rt < 9223372036854775808
     rotate_left
     ·have e2 : decide ((9223372036854775808 : Int) ≤ (rt : Int)) = true := by simp; omega
      have hF := hfail.out (fun h => h2 h.2)
      clear h1 h2 hfail hgood hy0 e63
      go_wp2_with fail
      go_ret
      exact ⟨by rw [hF.out]; rfl, B.out⟩
     have e2 : decide ((9223372036854775808 : Int) ≤ (rt : Int)) = false := by simp; omega
     have hRb := hgood.out ⟨h1, h2⟩
     have hMk : Hid (M = (decide (ns ≤ 16) && decide (s = s ∧ m = 0 ∧ t = 0 ∧ st = 0 ∧ pk = 0 ∧ oc = 0 ∧ rt = rt ∧ nr = 0 ∧ nn = 0 ∧ ns = ns ∧ nl = 0 ∧ nf = 0) && !AN && !AR)) := by
      show _ = _
      rw [← hM.out, ← hAN.out, ← hAR.out]
      have h := mk_4 s m t st pk oc rt reps nams srcs loss firs hRb.out
      simp only [hL1.out, hL2.out, hL3.out, hL4.out, hL5.out, eq_self] at h ⊢
      exact h
     clear h1 h2 hfail hgood hy0 e63
     go_wp2_with fail
     go_meet
     have hb := B.out
     exact ⟨ns, s, 0, 0, 0, 0, 0, rt, 0, 0, ns, 0, 0, none, none, as_, none, none, 0, 0, cs, 0, 0, rfl, by omega, D2, P3, (by show _ = _; rw [hMk.out]; simp only [eq_self]), Lib.hid (fun h => SQ.zero _ _ _ l1.out h), Lib.hid (fun h => SQ.zero _ _ _ l2.out h), Lib.hid (fun _ => r3.out.bw hb), Lib.hid (fun h => SQ.zero _ _ _ l4.out h), Lib.hid (fun h => SQ.zero _ _ _ l5.out h), B⟩
 case rest =>
  clear B P D1
  obtain ⟨n, s', m', t', st', pk', oc', rt', nr', nn', ns', nl', nf', br, bn, bs, bl, bf, dr, dn, ds, dl, df, rfl, hn, D, P, hMk, q1, q2, q3, q4, q5, B⟩ := hcut
  by_cases h16 : n ≤ 16
  rotate_left
  ·have d : decide ((16 : Int) < (n : Int)) = true := by simp; omega
   have hF : Hid (M = false) := by show _ = _; rw [hMk.out, decide_eq_false h16]; rfl
   clear hMk h16
   go_wp2_with fail
   go_ret
   exact ⟨by rw [hF.out]; rfl, B.out⟩
  have d : decide ((16 : Int) < (n : Int)) = false := by simp; omega
  have z0 := hp_cell (P.out) 0
  have z1 := hp_cell (P.out) 1
  have z2 := hp_cell (P.out) 2
  have z3 := hp_cell (P.out) 3
  have z4 := hp_cell (P.out) 4
  have z5 := hp_cell (P.out) 5
  have z6 := hp_cell (P.out) 6
  have z7 := hp_cell (P.out) 7
  have z8 := hp_cell (P.out) 8
  have z9 := hp_cell (P.out) 9
  have z10 := hp_cell (P.out) 10
  have z11 := hp_cell (P.out) 11
  have z12 := hp_cell (P.out) 12
  simp only [List.getElem?_toArray, List.getElem?_cons_zero, List.getElem?_cons_succ] at z0 z1 z2 z3 z4 z5 z6 z7 z8 z9 z10 z11 z12
  have k0 := hp_cell (D.out) 0
  have k1 := hp_cell (D.out) 1
  have k2 := hp_cell (D.out) 2
  have k3 := hp_cell (D.out) 3
  have k4 := hp_cell (D.out) 4
  have k5 := hp_cell (D.out) 5
  have k6 := hp_cell (D.out) 6
  have k7 := hp_cell (D.out) 7
  have k8 := hp_cell (D.out) 8
  have k9 := hp_cell (D.out) 9
  have k10 := hp_cell (D.out) 10
  have k11 := hp_cell (D.out) 11
  have k12 := hp_cell (D.out) 12
  simp only [List.getElem?_toArray, List.getElem?_cons_zero, List.getElem?_cons_succ] at k0 k1 k2 k3 k4 k5 k6 k7 k8 k9 k10 k11 k12
  by_cases hE : s = s' ∧ m = m' ∧ t = t' ∧ st = st' ∧ pk = pk' ∧ oc = oc' ∧ rt = rt' ∧ nr = nr' ∧ nn = nn' ∧ ns = ns' ∧ nl = nl' ∧ nf = nf'
  rotate_left
  ·have hF : Hid (M = false) := by show _ = _; rw [hMk.out, decide_eq_false hE]; simp
   have c1 := fun wz => Lib.hid (csame_no k s m t st pk oc rt s' m' t' st' pk' oc' rt' ar an as_ al af br bn bs bl bf nr nn ns nl nf nr' nn' ns' nl' nf' cr cn cs cl_ cf dr dn ds dl df hE wz)
   clear hMk h16 hE
   go_wp2_with fail
   refine Calls.mono (c1 _).out ?_
   rintro e w4 ⟨rfl, hb⟩
   have B4 := Lib.hid (B.out.trans hb)
   clear hb
   dsimp only
   go_wp2_with fail
   go_ret
   exact ⟨by rw [hF.out]; rfl, B4.out⟩
  have hM2 : Hid (M = (!AN && !AR)) := by show _ = _; rw [hMk.out, decide_eq_true h16, decide_eq_true hE]; simp
  obtain ⟨rfl, rfl, rfl, rfl, rfl, rfl, rfl, rfl, rfl, rfl, rfl, rfl⟩ := hE
  have c1 := Lib.hid (csame_all k s m t st pk oc rt ar an as_ al af br bn bs bl bf nr nn ns nl nf cr cn cs cl_ cf dr dn ds dl df reps nams srcs loss firs (by omega) wc (r1.out.bw B.out) (r2.out.bw B.out) (r3.out.bw B.out) (r4.out.bw B.out) (r5.out.bw B.out) (q1.out rfl) (q2.out rfl) (q3.out rfl) (q4.out rfl) (q5.out rfl))
  clear hMk h16 q1 q2 q3 q4 q5
  go_wp2_with fail
  refine Calls.mono c1.out ?_
  rintro e w4 ⟨rfl, hb⟩
  have B4 := Lib.hid (B.out.trans hb)
  have P4 := Lib.hid (P.out.bw hb)
  clear hb c1 D B P d
  clear z0 z1 z2 z3 z4 z5 z6 z7 z8 z9 z10 z11 z12 k0 k1 k2 k3 k4 k5 k6 k7 k8 k9 k10 k11 k12
  dsimp only
  go_upto_region 54 with (fail)
  have hA : Hid (AN = (nams.drop 0).any badN) := by show _ = _; rw [List.drop_zero]; exact hAN.out.symm
  go_loopg [8] nn (fun m' a wx => ∃ j : Nat, m' = nn - j ∧ j ≤ nn ∧ a = .int .i64 (j : Nat) ∧ Hid (AN = (nams.drop j).any badN) ∧ Hid (BW w4 wx))
  case atStart => exact ⟨0, rfl, by omega, rfl, hA, BW.refl _⟩
  case round =>
   clear hA
   obtain ⟨j, rfl, hj, rfl, hA, B⟩ := hrel
   have z8 := (hp_cell (P4.out.bw B.out) 8).trans (show _ = some (.slice an nn cn) from rfl)
   by_cases hjn : j < nn
   ·have d : decide ((j : Int) < (nn : Int)) = true := by simp; omega
    have hjl : j < nams.length := by rw [l2.out]; exact hjn
    obtain ⟨ga, oa, rfl, -, hca⟩ := sq_cells (r2.out.bw (B4.out.trans B.out)) (by omega)
    obtain ⟨xa, hxa, hya⟩ := hca j hjl
    replace hxa : xa = namV (nams[j]) := hxa
    replace hya : ∀ q, q < 2 → wr.cell? ⟨ga, oa + j * 2 + q, none⟩ = (namV (nams[j]))[q]? := fun q hq => by rw [← hxa]; exact hya q hq
    have hA2 := hA.out
    rw [List.drop_eq_getElem_cons hjl, List.any_cons] at hA2
    have hl3 := hnm.out _ (List.getElem_mem hjl)
    clear hxa hca hA
    generalize nams[j] = E at *
    obtain ⟨e0, e1⟩ := E
    dsimp only at hl3
    have y1 : wr.cell? ⟨ga, oa + j * 2 + 1, none⟩ = some (.string (bstr e1)) := hya 1 (by decide)
    have c1 := Lib.hid (rname_ok (bstr e1) (by rw [bstr_size]; omega) wr)
    have hbd : badN (e0, e1) = !nameB (bstr e1) := rfl
    rw [hbd] at hA2
    clear hya hbd hl3
    generalize bstr e1 = sx at *
    generalize nameB sx = b at *
    replace hA2 := Lib.hid hA2
    go_wp2_with fail
    refine Calls.mono c1.out ?_
    rintro e w' ⟨rfl, rfl⟩
    dsimp only
    clear c1
    cases b with
    | false =>
     have hF : Hid (M = false) := by show _ = _; rw [hM2.out, hA2.out]; rfl
     have BF := Lib.hid (B4.out.trans B.out)
     clear hA2
     go_wp2_with fail
     go_ret
     exact ⟨by rw [hF.out]; rfl, BF.out⟩
    | true =>
     have hA3 : Hid (AN = (nams.drop (j + 1)).any badN) := by show _ = _; rw [hA2.out]; rfl
     clear hA2
     go_wp2_with fail
     go_roundg (nn - (j + 1))
     case measure => omega
     case rel => exact ⟨j + 1, rfl, by omega, by push_cast; rfl, hA3, B⟩
   ·obtain rfl : j = nn := by omega
    have d : decide ((j : Int) < (j : Int)) = false := by simp
    have hAF : Hid (AN = false) := by show _ = _; rw [hA.out, List.drop_of_length_le (by rw [l2.out]; exact Nat.le_refl _)]; rfl
    have hM3 : Hid (M = !AR) := by show _ = _; rw [hM2.out, hAF.out]; rfl
    clear hA hAF
    go_upto_region 59 with (fail)
    clear z8 d
    rename World => wo
    have hA : Hid (AR = (reps.drop 0).any badR) := by show _ = _; rw [List.drop_zero]; exact hAR.out.symm
    go_loopg [9] nr (fun m' a wx => ∃ j : Nat, m' = nr - j ∧ j ≤ nr ∧ a = .int .i64 (j : Nat) ∧ Hid (AR = (reps.drop j).any badR) ∧ Hid (BW w4 wx))
    case atStart => exact ⟨0, rfl, by omega, rfl, hA, B⟩
    case round =>
     clear hA B
     obtain ⟨i, rfl, hi, rfl, hA, B⟩ := hrel
     have z7 := (hp_cell (P4.out.bw B.out) 7).trans (show _ = some (.slice ar nr cr) from rfl)
     by_cases hin : i < nr
     ·have d : decide ((i : Int) < (nr : Int)) = true := by simp; omega
      have hil : i < reps.length := by rw [l1.out]; exact hin
      obtain ⟨ga, oa, rfl, -, hca⟩ := sq_cells (r1.out.bw (B4.out.trans B.out)) (by omega)
      obtain ⟨xa, hxa, hya⟩ := hca i hil
      replace hxa : xa = repV (reps[i]) := hxa
      replace hya : ∀ q, q < 7 → wr.cell? ⟨ga, oa + i * 7 + q, none⟩ = (repV (reps[i]))[q]? := fun q hq => by rw [← hxa]; exact hya q hq
      have hA2 := hA.out
      rw [List.drop_eq_getElem_cons hil, List.any_cons] at hA2
      clear hxa hca hA
      generalize reps[i] = E at *
      obtain ⟨e0, e1, lost, e3, e4, e5, e6⟩ := E
      have y2 : wr.cell? ⟨ga, oa + i * 7 + 2, none⟩ = some (.int .i32 lost) := hya 2 (by decide)
      have hbd : badR ⟨e0, e1, lost, e3, e4, e5, e6⟩ = decide (lost < -8388608 ∨ 8388608 ≤ lost) := rfl
      rw [hbd] at hA2
      clear hya hbd
      replace hA2 := Lib.hid hA2
      by_cases h1 : lost < -8388608
      ·have d1 : decide (lost < -8388608) = true := by simpa using h1
       have hF : Hid (M = false) := by show _ = _; rw [hM3.out, hA2.out, decide_eq_true (.inl h1)]; rfl
       have BF := Lib.hid (B4.out.trans B.out)
       clear hA2 h1
       go_wp2_with fail
       go_ret
       exact ⟨by rw [hF.out]; rfl, BF.out⟩
      have d1 : decide (lost < -8388608) = false := by simpa using h1
      by_cases h2 : 8388607 < lost
      ·have d2 : decide (8388607 < lost) = true := by simpa using h2
       have hF : Hid (M = false) := by show _ = _; rw [hM3.out, hA2.out, decide_eq_true (.inr (by omega))]; rfl
       have BF := Lib.hid (B4.out.trans B.out)
       clear hA2 h1 h2
       go_wp2_with fail
       go_ret
       exact ⟨by rw [hF.out]; rfl, BF.out⟩
      have d2 : decide (8388607 < lost) = false := by simpa using h2
      have hA3 : Hid (AR = (reps.drop (i + 1)).any badR) := by show _ = _; rw [hA2.out, decide_eq_false (by omega)]; rfl
      clear hA2 h1 h2
      go_wp2_with fail
      go_roundg (nr - (i + 1))
      case measure => omega
      case rel => exact ⟨i + 1, rfl, by omega, by push_cast; rfl, hA3, B⟩
     ·obtain rfl : i = nr := by omega
      have d : decide ((i : Int) < (i : Int)) = false := by simp
      have hF : Hid (M = true) := by show _ = _; rw [hM3.out, hA.out, List.drop_of_length_le (by rw [l1.out]; exact Nat.le_refl _)]; rfl
      have BF := Lib.hid (B4.out.trans B.out)
      clear hA
      go_wp2_with fail
      go_ret
      exact ⟨by rw [hF.out]; rfl, BF.out⟩
end Go.Proofs.Ytcempndfbckcaaa
