/- bits.Len64; rtcp's rate: a mantissa and an exponent. No condition. rtcp's writer: bodies of reports, names, byes, plis. No condition but the sizes'. rtcp's writer: bodies of nacks and firs. No condition but the sizes'. rtcp's writer: the body of a rate. No condition but the sizes'. rtcp's writer: the body of any kind of packet. No condition but the sizes'. -/
import Derived.Test.YtcempndfbckcaaaGX1
import Derived.Laws.MathBits
namespace Go.Proofs.Ytcempndfbckcaaa
open Go.RowKit
set_option maxRecDepth 100000 in
set_option maxHeartbeats 8000000 in
theorem len64_ok (x : Nat) (hx : x < 18446744073709551616) (w : World) : Calls Try.prog 130 #[.int .u64 (x : Nat)] w fun e w' => e = .returned (.int .i64 (bitLen x : Nat)) ∧ w = w' := by
 by_cases h0 : 4294967296 ≤ x
 ·have d0 : decide ((4294967296 : Int) ≤ (x : Int)) = true := by simp; omega
  have hb0 := bitLen_shift x 32 (by omega)
  have e0 : (x : Int) / 4294967296 = ((x / 2 ^ 32 : Nat) : Int) := by omega
  have hl0 : x / 2 ^ 32 < 4294967296 := by omega
  generalize x / 2 ^ 32 = y1 at *
  replace hb0 := Lib.hid hb0
  by_cases h1 : 65536 ≤ y1
  ·have d1 : decide ((65536 : Int) ≤ (y1 : Int)) = true := by simp; omega
   have hb1 := bitLen_shift y1 16 (by omega)
   have e1 : (y1 : Int) / 65536 = ((y1 / 2 ^ 16 : Nat) : Int) := by omega
   have hl1 : y1 / 2 ^ 16 < 65536 := by omega
   generalize y1 / 2 ^ 16 = y2 at *
   replace hb1 := Lib.hid hb1
   by_cases h2 : 256 ≤ y2
   ·have d2 : decide ((256 : Int) ≤ (y2 : Int)) = true := by simp; omega
    have hb2 := bitLen_shift y2 8 (by omega)
    have e2 : (y2 : Int) / 256 = ((y2 / 2 ^ 8 : Nat) : Int) := by omega
    have hl2 : y2 / 2 ^ 8 < 256 := by omega
    generalize y2 / 2 ^ 8 = y3 at *
    replace hb2 := Lib.hid hb2
    have hle := bitLen_le8 y3 (by omega)
    have hz8 : y3 < 256 := by omega
    have hzi : (y3 : Int) ≤ 255 := by omega
    have hsum : Hid (bitLen x = 56 + bitLen y3) := by have := hb0.out; have := hb1.out; have := hb2.out; show _ = _; omega
    clear hx
    go_enter Try.func130, Try.ntmps130
    go_wp2_with fail
    simp only [len8tab_get]
    generalize bitLen y3 = q at *
    go_ret
    have hw : wrap64 (56 + wrap64 (q : Int)) = ((56 + q : Nat) : Int) := by unfold wrap64; omega
    exact ⟨by rw [hsum.out]; exact congrArg (fun z => Ending.returned (.int .i64 z)) hw, rfl⟩
   ·have d2 : decide ((256 : Int) ≤ (y2 : Int)) = false := by simp; omega
    have hle := bitLen_le8 y2 (by omega)
    have hz8 : y2 < 256 := by omega
    have hzi : (y2 : Int) ≤ 255 := by omega
    have hsum : Hid (bitLen x = 48 + bitLen y2) := by have := hb0.out; have := hb1.out; show _ = _; omega
    clear hx
    go_enter Try.func130, Try.ntmps130
    go_wp2_with fail
    simp only [len8tab_get]
    generalize bitLen y2 = q at *
    go_ret
    have hw : wrap64 (48 + wrap64 (q : Int)) = ((48 + q : Nat) : Int) := by unfold wrap64; omega
    exact ⟨by rw [hsum.out]; exact congrArg (fun z => Ending.returned (.int .i64 z)) hw, rfl⟩
  ·have d1 : decide ((65536 : Int) ≤ (y1 : Int)) = false := by simp; omega
   by_cases h2 : 256 ≤ y1
   ·have d2 : decide ((256 : Int) ≤ (y1 : Int)) = true := by simp; omega
    have hb2 := bitLen_shift y1 8 (by omega)
    have e2 : (y1 : Int) / 256 = ((y1 / 2 ^ 8 : Nat) : Int) := by omega
    have hl2 : y1 / 2 ^ 8 < 256 := by omega
    generalize y1 / 2 ^ 8 = y3 at *
    replace hb2 := Lib.hid hb2
    have hle := bitLen_le8 y3 (by omega)
    have hz8 : y3 < 256 := by omega
    have hzi : (y3 : Int) ≤ 255 := by omega
    have hsum : Hid (bitLen x = 40 + bitLen y3) := by have := hb0.out; have := hb2.out; show _ = _; omega
    clear hx
    go_enter Try.func130, Try.ntmps130
    go_wp2_with fail
    simp only [len8tab_get]
    generalize bitLen y3 = q at *
    go_ret
    have hw : wrap64 (40 + wrap64 (q : Int)) = ((40 + q : Nat) : Int) := by unfold wrap64; omega
    exact ⟨by rw [hsum.out]; exact congrArg (fun z => Ending.returned (.int .i64 z)) hw, rfl⟩
   ·have d2 : decide ((256 : Int) ≤ (y1 : Int)) = false := by simp; omega
    have hle := bitLen_le8 y1 (by omega)
    have hz8 : y1 < 256 := by omega
    have hzi : (y1 : Int) ≤ 255 := by omega
    have hsum : Hid (bitLen x = 32 + bitLen y1) := by have := hb0.out; show _ = _; omega
    clear hx
    go_enter Try.func130, Try.ntmps130
    go_wp2_with fail
    simp only [len8tab_get]
    generalize bitLen y1 = q at *
    go_ret
    have hw : wrap64 (32 + wrap64 (q : Int)) = ((32 + q : Nat) : Int) := by unfold wrap64; omega
    exact ⟨by rw [hsum.out]; exact congrArg (fun z => Ending.returned (.int .i64 z)) hw, rfl⟩
 ·have d0 : decide ((4294967296 : Int) ≤ (x : Int)) = false := by simp; omega
  by_cases h1 : 65536 ≤ x
  ·have d1 : decide ((65536 : Int) ≤ (x : Int)) = true := by simp; omega
   have hb1 := bitLen_shift x 16 (by omega)
   have e1 : (x : Int) / 65536 = ((x / 2 ^ 16 : Nat) : Int) := by omega
   have hl1 : x / 2 ^ 16 < 65536 := by omega
   generalize x / 2 ^ 16 = y2 at *
   replace hb1 := Lib.hid hb1
   by_cases h2 : 256 ≤ y2
   ·have d2 : decide ((256 : Int) ≤ (y2 : Int)) = true := by simp; omega
    have hb2 := bitLen_shift y2 8 (by omega)
    have e2 : (y2 : Int) / 256 = ((y2 / 2 ^ 8 : Nat) : Int) := by omega
    have hl2 : y2 / 2 ^ 8 < 256 := by omega
    generalize y2 / 2 ^ 8 = y3 at *
    replace hb2 := Lib.hid hb2
    have hle := bitLen_le8 y3 (by omega)
    have hz8 : y3 < 256 := by omega
    have hzi : (y3 : Int) ≤ 255 := by omega
    have hsum : Hid (bitLen x = 24 + bitLen y3) := by have := hb1.out; have := hb2.out; show _ = _; omega
    clear hx
    go_enter Try.func130, Try.ntmps130
    go_wp2_with fail
    simp only [len8tab_get]
    generalize bitLen y3 = q at *
    go_ret
    have hw : wrap64 (24 + wrap64 (q : Int)) = ((24 + q : Nat) : Int) := by unfold wrap64; omega
    exact ⟨by rw [hsum.out]; exact congrArg (fun z => Ending.returned (.int .i64 z)) hw, rfl⟩
   ·have d2 : decide ((256 : Int) ≤ (y2 : Int)) = false := by simp; omega
    have hle := bitLen_le8 y2 (by omega)
    have hz8 : y2 < 256 := by omega
    have hzi : (y2 : Int) ≤ 255 := by omega
    have hsum : Hid (bitLen x = 16 + bitLen y2) := by have := hb1.out; show _ = _; omega
    clear hx
    go_enter Try.func130, Try.ntmps130
    go_wp2_with fail
    simp only [len8tab_get]
    generalize bitLen y2 = q at *
    go_ret
    have hw : wrap64 (16 + wrap64 (q : Int)) = ((16 + q : Nat) : Int) := by unfold wrap64; omega
    exact ⟨by rw [hsum.out]; exact congrArg (fun z => Ending.returned (.int .i64 z)) hw, rfl⟩
  ·have d1 : decide ((65536 : Int) ≤ (x : Int)) = false := by simp; omega
   by_cases h2 : 256 ≤ x
   ·have d2 : decide ((256 : Int) ≤ (x : Int)) = true := by simp; omega
    have hb2 := bitLen_shift x 8 (by omega)
    have e2 : (x : Int) / 256 = ((x / 2 ^ 8 : Nat) : Int) := by omega
    have hl2 : x / 2 ^ 8 < 256 := by omega
    generalize x / 2 ^ 8 = y3 at *
    replace hb2 := Lib.hid hb2
    have hle := bitLen_le8 y3 (by omega)
    have hz8 : y3 < 256 := by omega
    have hzi : (y3 : Int) ≤ 255 := by omega
    have hsum : Hid (bitLen x = 8 + bitLen y3) := by have := hb2.out; show _ = _; omega
    clear hx
    go_enter Try.func130, Try.ntmps130
    go_wp2_with fail
    simp only [len8tab_get]
    generalize bitLen y3 = q at *
    go_ret
    have hw : wrap64 (8 + wrap64 (q : Int)) = ((8 + q : Nat) : Int) := by unfold wrap64; omega
    exact ⟨by rw [hsum.out]; exact congrArg (fun z => Ending.returned (.int .i64 z)) hw, rfl⟩
   ·have d2 : decide ((256 : Int) ≤ (x : Int)) = false := by simp; omega
    have hle := bitLen_le8 x (by omega)
    have hz8 : x < 256 := by omega
    have hzi : (x : Int) ≤ 255 := by omega
    have hsum : Hid (bitLen x = 0 + bitLen x) := by show _ = _; omega
    clear hx
    go_enter Try.func130, Try.ntmps130
    go_wp2_with fail
    simp only [len8tab_get]
    generalize bitLen x = q at *
    go_ret
    exact ⟨by rw [hsum.out, Nat.zero_add]; first | exact congrArg (fun z => Ending.returned (.int .i64 z)) (show wrap64 (q : Int) = (q : Int) by unfold wrap64; omega) | exact congrArg (fun z => Ending.returned (.int .i64 z)) (show wrap64 (wrap64 (q : Int)) = (q : Int) by unfold wrap64; omega) | exact congrArg (fun z => Ending.returned (.int .i64 z)) (show wrap64 (0 + wrap64 (q : Int)) = (q : Int) by unfold wrap64; omega), rfl⟩
def expN (x : Nat) : Nat := bitLen x - 18
theorem expN_le (x : Nat) (hx : x < 18446744073709551616) : expN x ≤ 46 := by
 unfold expN bitLen
 split
 ·omega
 ·rename_i h
  have : x.log2 < 64 := (Nat.log2_lt h).2 hx
  omega
set_option maxRecDepth 100000 in
set_option maxHeartbeats 8000000 in
theorem rate_ok (x : Nat) (hx : x < 18446744073709551616) (w : World) : Calls Try.prog 112 #[.int .u64 (x : Nat)] w fun e w' => e = .returned (.tuple #[.int .u64 (x / 2 ^ expN x : Nat), .int .i64 (expN x : Nat)]) ∧ w = w' := by
 have c := Lib.hid (len64_ok x hx w)
 have hE : Hid (expN x = bitLen x - 18) := rfl
 have hB : bitLen x ≤ 64 := by
  unfold bitLen
  split
  ·omega
  ·rename_i h
   have : x.log2 < 64 := (Nat.log2_lt h).2 hx
   omega
 generalize expN x = p at *
 generalize bitLen x = b at *
 have hmx : max ((b : Int) - 18) 0 = (p : Int) := by have := hE.out; omega
 have hB2 : (b : Int) ≤ 64 := by omega
 have hp2 : p ≤ 46 := by have := hE.out; omega
 clear hx
 go_enter Try.func112, Try.ntmps112
 go_wp2_with fail
 refine Calls.mono c.out ?_
 rintro e w' ⟨rfl, rfl⟩
 dsimp only
 clear c
 go_wp2_with fail
 ·go_ret2
  have hp : p = 0 := by have := hE.out; omega
  subst hp
  exact ⟨by simp, rfl⟩
 ·go_ret2
  have hp : (b : Int) - 18 = (p : Int) := by have := hE.out; omega
  refine ⟨?_, rfl⟩
  show Ending.returned (.tuple #[.int .u64 ((x : Int) / 2 ^ ((b : Int) - 18).toNat), .int .i64 ((b : Int) - 18)]) = _
  rw [hp]
  simp
end Go.Proofs.Ytcempndfbckcaaa

namespace Go.Proofs.Ytcempndfbckcaaa
open Go.RowKit
set_option maxRecDepth 100000 in
set_option maxHeartbeats 8000000 in
theorem body_sr (g s m t st pk oc : Nat) (ar an as_ al af : Option Addr) (nr nn ns nl nf cr cn cs cl_ cf rt : Nat) (hs : s < 4294967296) (ht : t < 18446744073709551616) (hst : st < 4294967296) (hpk : pk < 4294967296) (hoc : oc < 4294967296) (L : List Rep) (hL : ∀ r ∈ L, RepWf r) (hn : nr ≤ 100) (w : World) (h : HpB w g (.cells #[.slice none 0 0] 152)) (hv : SQ ER w 0 (.slice ar nr cr) nr L) (hvo : 0 < nr → ∀ k, (Value.slice ar nr cr).ownBlock = some k → k ≠ g) :
  Calls Try.prog 85 #[.pointer (some ⟨g, 0, none⟩), .agg #[.int .i64 200, .int .u32 (s : Nat), .int .u32 (m : Nat), .int .u64 (t : Nat), .int .u32 (st : Nat), .int .u32 (pk : Nat), .int .u32 (oc : Nat), .slice ar nr cr, .slice an nn cn, .slice as_ ns cs, .slice al nl cl_, .slice af nf cf, .int .u64 (rt : Nat)]] w fun e w' => e = .returned (.tuple #[.int .i64 200, .int .i64 (nr : Nat)]) ∧ WrU w' w.heap.size g ((((wordsB [s]) ++ putB 8 t) ++ wordsB [st, pk, oc]) ++ repsB L) ∧ Still [g] w w' := by
 have c0 := fun wz gz (hz : w.heap.size ≤ wz.heap.size) (h : WrU wz w.heap.size g []) hq ho => Lib.hid (wwordsU_ok w.heap.size g [] (.slice (some ⟨gz, 0, none⟩) 1 1) 1 [s] 0 (by simp; omega) (by omega) (by simp [wordsB_len, putB_len]) wz hz h hq ho)
 try simp only [List.nil_append] at c0
 have c1 := fun wz (hz : w.heap.size ≤ wz.heap.size) (h : WrU wz w.heap.size g (wordsB [s])) => Lib.hid (wnumU_ok w.heap.size g (wordsB [s]) 8 t 8 (by decide) (by decide) rfl ht (by simp [wordsB_len, putB_len]) wz hz h)
 try simp only [List.nil_append] at c1
 have c2 := fun wz gz (hz : w.heap.size ≤ wz.heap.size) (h : WrU wz w.heap.size g ((wordsB [s]) ++ putB 8 t)) hq ho => Lib.hid (wwordsU_ok w.heap.size g ((wordsB [s]) ++ putB 8 t) (.slice (some ⟨gz, 0, none⟩) 3 3) 3 [st, pk, oc] 0 (by simp; omega) (by omega) (by simp [wordsB_len, putB_len]) wz hz h hq ho)
 try simp only [List.nil_append] at c2
 have c3 := fun wz (hz : w.heap.size ≤ wz.heap.size) (h : WrU wz w.heap.size g (((wordsB [s]) ++ putB 8 t) ++ wordsB [st, pk, oc])) hq => Lib.hid (wreports_ok w.heap.size g (((wordsB [s]) ++ putB 8 t) ++ wordsB [st, pk, oc]) (.slice ar nr cr) nr L hL (by omega) (by simp [wordsB_len, putB_len]) wz hz h hq hvo)
 try simp only [List.nil_append] at c3
 have BA : BW w (w.alloc (.cells #[.int .i64 200, .int .u32 (s : Nat), .int .u32 (m : Nat), .int .u64 (t : Nat), .int .u32 (st : Nat), .int .u32 (pk : Nat), .int .u32 (oc : Nat), .slice ar nr cr, .slice an nn cn, .slice as_ ns cs, .slice al nl cl_, .slice af nf cf, .int .u64 (rt : Nat)] 111)) := (BW.refl w).alloc
 have P := Lib.hid (HpB.new w (.cells #[.int .i64 200, .int .u32 (s : Nat), .int .u32 (m : Nat), .int .u64 (t : Nat), .int .u32 (st : Nat), .int .u32 (pk : Nat), .int .u32 (oc : Nat), .slice ar nr cr, .slice an nn cn, .slice as_ ns cs, .slice al nl cl_, .slice af nf cf, .int .u64 (rt : Nat)] 111))
 have H0 := Lib.hid (h.bw BA)
 have W0 : Hid (WrU (w.alloc (.cells #[.int .i64 200, .int .u32 (s : Nat), .int .u32 (m : Nat), .int .u64 (t : Nat), .int .u32 (st : Nat), .int .u32 (pk : Nat), .int .u32 (oc : Nat), .slice ar nr cr, .slice an nn cn, .slice as_ ns cs, .slice al nl cl_, .slice af nf cf, .int .u64 (rt : Nat)] 111)) w.heap.size g []) := ⟨none, 0, H0.out, OB.nil _ _ _⟩
 have S0 := Lib.hid (BA.still [g])
 have V0 := Lib.hid (hv.bw BA)
 have hvv := Lib.hid hvo
 have hn2 : (nr : Int) ≤ 100 := by omega
 have hg := Lib.hid h.lt
 clear h hs ht hst hpk hoc hv hvo hL
 replace BA := Lib.hid BA
 go_enter Try.func85, Try.ntmps85
 go_upto_region 1 with (fail)
 generalize (w.alloc _) = w0 at *
 generalize hgp : w.heap.size = gp at *
 have hpg : Hid (gp ≠ g) := by have := hg.out; show _ ≠ _; omega
 clear BA
 replace hgp := Lib.hid hgp
 have z0 := (hp_cell P.out 0).trans (show _ = some (.int .i64 200) from rfl)
 have z1 := (hp_cell P.out 1).trans (show _ = some (.int .u32 (s : Nat)) from rfl)
 have BS : BW w0 (w0.alloc (.cells #[.int .u32 (s : Nat)] 73)) := (BW.refl w0).alloc
 have Q := Lib.hid (SQ_srcs w0 0 [s] #[.int .u32 (s : Nat)] rfl 1 rfl (by omega) (by omega))
 have hlt := Lib.hid (W0.out.lt)
 have cc := c0 _ w0.heap.size (by have := (S0.out.trans (BS.still [g])).size; have := hgp.out; omega) (W0.out.bw BS) Q.out (fun _ j hj => by simp [Value.ownBlock] at hj; have := hlt.out; omega)
 replace P := Lib.hid (P.out.bw BS)
 replace S0 := Lib.hid (S0.out.trans (BS.still [g]))
 replace V0 := Lib.hid (V0.out.bw BS)
 clear Q hlt c0 W0
 replace BS := Lib.hid BS
 go_wp2_with fail
 refine Calls.mono cc.out ?_
 rintro e w1 ⟨rfl, W1, T⟩
 replace W1 := Lib.hid W1
 replace P := Lib.hid (P.out.st T (by have := hpg.out; simpa using this))
 replace S0 := Lib.hid (S0.out.trans T)
 replace V0 := Lib.hid (V0.out.st0 T (fun _ _ => trivial) (fun h0 j hj hm => hvv.out h0 j hj (by simpa using hm)))
 clear T cc BS z1 z0
 dsimp only
 have z3 := (hp_cell P.out 3).trans (show _ = some (.int .u64 (t : Nat)) from rfl)
 have cc := c1 w1 (by have := S0.out.size; have := hgp.out; omega) W1.out
 clear c1 W1
 go_wp2_with fail
 refine Calls.mono cc.out ?_
 rintro e w2 ⟨rfl, W2, T⟩
 replace W2 := Lib.hid W2
 replace P := Lib.hid (P.out.st T (by have := hpg.out; simpa using this))
 replace S0 := Lib.hid (S0.out.trans T)
 replace V0 := Lib.hid (V0.out.st0 T (fun _ _ => trivial) (fun h0 j hj hm => hvv.out h0 j hj (by simpa using hm)))
 clear T cc z3
 dsimp only
 have z4 := (hp_cell P.out 4).trans (show _ = some (.int .u32 (st : Nat)) from rfl)
 have z5 := (hp_cell P.out 5).trans (show _ = some (.int .u32 (pk : Nat)) from rfl)
 have z6 := (hp_cell P.out 6).trans (show _ = some (.int .u32 (oc : Nat)) from rfl)
 have BS : BW w2 (w2.alloc (.cells #[.int .u32 (st : Nat), .int .u32 (pk : Nat), .int .u32 (oc : Nat)] 73)) := (BW.refl w2).alloc
 have Q := Lib.hid (SQ_srcs w2 0 [st, pk, oc] #[.int .u32 (st : Nat), .int .u32 (pk : Nat), .int .u32 (oc : Nat)] rfl 3 rfl (by omega) (by omega))
 have hlt := Lib.hid (W2.out.lt)
 have cc := c2 _ w2.heap.size (by have := (S0.out.trans (BS.still [g])).size; have := hgp.out; omega) (W2.out.bw BS) Q.out (fun _ j hj => by simp [Value.ownBlock] at hj; have := hlt.out; omega)
 replace P := Lib.hid (P.out.bw BS)
 replace S0 := Lib.hid (S0.out.trans (BS.still [g]))
 replace V0 := Lib.hid (V0.out.bw BS)
 clear Q hlt c2 W2
 replace BS := Lib.hid BS
 go_wp2_with fail
 refine Calls.mono cc.out ?_
 rintro e w3 ⟨rfl, W3, T⟩
 replace W3 := Lib.hid W3
 replace P := Lib.hid (P.out.st T (by have := hpg.out; simpa using this))
 replace S0 := Lib.hid (S0.out.trans T)
 replace V0 := Lib.hid (V0.out.st0 T (fun _ _ => trivial) (fun h0 j hj hm => hvv.out h0 j hj (by simpa using hm)))
 clear T cc BS z4 z5 z6
 dsimp only
 have z7 := (hp_cell P.out 7).trans (show _ = some (.slice ar nr cr) from rfl)
 have cc := c3 w3 (by have := S0.out.size; have := hgp.out; omega) W3.out V0.out
 clear c3 W3
 go_wp2_with fail
 refine Calls.mono cc.out ?_
 rintro e w4 ⟨rfl, W4, T⟩
 replace W4 := Lib.hid W4
 replace P := Lib.hid (P.out.st T (by have := hpg.out; simpa using this))
 replace S0 := Lib.hid (S0.out.trans T)
 replace V0 := Lib.hid (V0.out.st0 T (fun _ _ => trivial) (fun h0 j hj hm => hvv.out h0 j hj (by simpa using hm)))
 clear T cc z7
 dsimp only
 go_upto_region 7 with (fail)
 have l0 : ∀ y : LaterS [] w4, y.now.cell? ⟨gp, 0, none⟩ = some (.int .i64 200) := fun y => (hp_cell (P.out.bw y.bw) 0).trans rfl
 have l7 : ∀ y : LaterS [] w4, y.now.cell? ⟨gp, 7, none⟩ = some (.slice ar nr cr) := fun y => (hp_cell (P.out.bw y.bw) 7).trans rfl
 refine wp_region_gg [] [] [] (by kernel_rfl) ?_
 refine hoist [] [] (a1 := ?_) 0 rfl (by kernel_rfl) (.inl ⟨rfl, rfl⟩) rfl rfl rfl (fun x K hK => ?_) ?_
 rotate_left
 ·go_big_quiet_op
  exact hK
 refine hoist [] [] (a1 := ?_) 1 rfl (by kernel_rfl) (.inl ⟨rfl, rfl⟩) rfl rfl rfl (fun x K hK => ?_) ?_
 rotate_left
 ·go_big_quiet_op
  exact hK
 refine hoist [] [] (a1 := ?_) 2 rfl (by kernel_rfl) (.inl ⟨rfl, rfl⟩) rfl rfl rfl (fun x K hK => ?_) ?_
 rotate_left
 ·go_big_quiet_op
  exact hK
 refine hoist [] [] (a1 := ?_) 3 rfl (by kernel_rfl) (.inl ⟨rfl, rfl⟩) rfl rfl rfl (fun x K hK => ?_) ?_
 rotate_left
 ·go_big_quiet_op
  exact hK
 refine hoist [] [] (a1 := ?_) 4 rfl (by kernel_rfl) (.inl ⟨rfl, rfl⟩) rfl rfl rfl (fun x K hK => ?_) ?_
 rotate_left
 ·go_big_quiet_op
  exact hK
 refine hoist [] [] (a1 := ?_) 5 rfl (by kernel_rfl) (.inl ⟨rfl, rfl⟩) rfl rfl rfl (fun x K hK => ?_) ?_
 rotate_left
 ·go_big_quiet_op
  exact hK
 refine hoist [] [] (a1 := ?_) 6 rfl (by kernel_rfl) (.inl ⟨rfl, rfl⟩) rfl rfl rfl (fun x K hK => ?_) ?_
 rotate_left
 ·go_big_quiet_op
  exact hK
 refine done (by kernel_rfl) (fun xr => ?_)
 have W9 := Lib.hid (W4.out.bw xr.bw)
 have S9 := Lib.hid (S0.out.trans (xr.bw.still [g]))
 clear l0 l7 P W4 S0 V0
 go_wp2_with fail
 go_ret2
 exact ⟨rfl, by rw [hgp.out]; exact W9.out, S9.out⟩
set_option maxRecDepth 100000 in
set_option maxHeartbeats 8000000 in
theorem body_rr (g s m t st pk oc : Nat) (ar an as_ al af : Option Addr) (nr nn ns nl nf cr cn cs cl_ cf rt : Nat) (hs : s < 4294967296) (L : List Rep) (hL : ∀ r ∈ L, RepWf r) (hn : nr ≤ 100) (w : World) (h : HpB w g (.cells #[.slice none 0 0] 152)) (hv : SQ ER w 0 (.slice ar nr cr) nr L) (hvo : 0 < nr → ∀ k, (Value.slice ar nr cr).ownBlock = some k → k ≠ g) :
  Calls Try.prog 85 #[.pointer (some ⟨g, 0, none⟩), .agg #[.int .i64 201, .int .u32 (s : Nat), .int .u32 (m : Nat), .int .u64 (t : Nat), .int .u32 (st : Nat), .int .u32 (pk : Nat), .int .u32 (oc : Nat), .slice ar nr cr, .slice an nn cn, .slice as_ ns cs, .slice al nl cl_, .slice af nf cf, .int .u64 (rt : Nat)]] w fun e w' => e = .returned (.tuple #[.int .i64 201, .int .i64 (nr : Nat)]) ∧ WrU w' w.heap.size g ((wordsB [s]) ++ repsB L) ∧ Still [g] w w' := by
 have c0 := fun wz gz (hz : w.heap.size ≤ wz.heap.size) (h : WrU wz w.heap.size g []) hq ho => Lib.hid (wwordsU_ok w.heap.size g [] (.slice (some ⟨gz, 0, none⟩) 1 1) 1 [s] 0 (by simp; omega) (by omega) (by simp [wordsB_len, putB_len]) wz hz h hq ho)
 try simp only [List.nil_append] at c0
 have c1 := fun wz (hz : w.heap.size ≤ wz.heap.size) (h : WrU wz w.heap.size g (wordsB [s])) hq => Lib.hid (wreports_ok w.heap.size g (wordsB [s]) (.slice ar nr cr) nr L hL (by omega) (by simp [wordsB_len, putB_len]) wz hz h hq hvo)
 try simp only [List.nil_append] at c1
 have BA : BW w (w.alloc (.cells #[.int .i64 201, .int .u32 (s : Nat), .int .u32 (m : Nat), .int .u64 (t : Nat), .int .u32 (st : Nat), .int .u32 (pk : Nat), .int .u32 (oc : Nat), .slice ar nr cr, .slice an nn cn, .slice as_ ns cs, .slice al nl cl_, .slice af nf cf, .int .u64 (rt : Nat)] 111)) := (BW.refl w).alloc
 have P := Lib.hid (HpB.new w (.cells #[.int .i64 201, .int .u32 (s : Nat), .int .u32 (m : Nat), .int .u64 (t : Nat), .int .u32 (st : Nat), .int .u32 (pk : Nat), .int .u32 (oc : Nat), .slice ar nr cr, .slice an nn cn, .slice as_ ns cs, .slice al nl cl_, .slice af nf cf, .int .u64 (rt : Nat)] 111))
 have H0 := Lib.hid (h.bw BA)
 have W0 : Hid (WrU (w.alloc (.cells #[.int .i64 201, .int .u32 (s : Nat), .int .u32 (m : Nat), .int .u64 (t : Nat), .int .u32 (st : Nat), .int .u32 (pk : Nat), .int .u32 (oc : Nat), .slice ar nr cr, .slice an nn cn, .slice as_ ns cs, .slice al nl cl_, .slice af nf cf, .int .u64 (rt : Nat)] 111)) w.heap.size g []) := ⟨none, 0, H0.out, OB.nil _ _ _⟩
 have S0 := Lib.hid (BA.still [g])
 have V0 := Lib.hid (hv.bw BA)
 have hvv := Lib.hid hvo
 have hn2 : (nr : Int) ≤ 100 := by omega
 have hg := Lib.hid h.lt
 clear h hs hv hvo hL
 replace BA := Lib.hid BA
 go_enter Try.func85, Try.ntmps85
 go_upto_region 1 with (fail)
 generalize (w.alloc _) = w0 at *
 generalize hgp : w.heap.size = gp at *
 have hpg : Hid (gp ≠ g) := by have := hg.out; show _ ≠ _; omega
 clear BA
 replace hgp := Lib.hid hgp
 have z0 := (hp_cell P.out 0).trans (show _ = some (.int .i64 201) from rfl)
 have z1 := (hp_cell P.out 1).trans (show _ = some (.int .u32 (s : Nat)) from rfl)
 have BS : BW w0 (w0.alloc (.cells #[.int .u32 (s : Nat)] 73)) := (BW.refl w0).alloc
 have Q := Lib.hid (SQ_srcs w0 0 [s] #[.int .u32 (s : Nat)] rfl 1 rfl (by omega) (by omega))
 have hlt := Lib.hid (W0.out.lt)
 have cc := c0 _ w0.heap.size (by have := (S0.out.trans (BS.still [g])).size; have := hgp.out; omega) (W0.out.bw BS) Q.out (fun _ j hj => by simp [Value.ownBlock] at hj; have := hlt.out; omega)
 replace P := Lib.hid (P.out.bw BS)
 replace S0 := Lib.hid (S0.out.trans (BS.still [g]))
 replace V0 := Lib.hid (V0.out.bw BS)
 clear Q hlt c0 W0
 replace BS := Lib.hid BS
 go_wp2_with fail
 refine Calls.mono cc.out ?_
 rintro e w1 ⟨rfl, W1, T⟩
 replace W1 := Lib.hid W1
 replace P := Lib.hid (P.out.st T (by have := hpg.out; simpa using this))
 replace S0 := Lib.hid (S0.out.trans T)
 replace V0 := Lib.hid (V0.out.st0 T (fun _ _ => trivial) (fun h0 j hj hm => hvv.out h0 j hj (by simpa using hm)))
 clear T cc BS z1 z0
 dsimp only
 have z7 := (hp_cell P.out 7).trans (show _ = some (.slice ar nr cr) from rfl)
 have cc := c1 w1 (by have := S0.out.size; have := hgp.out; omega) W1.out V0.out
 clear c1 W1
 go_wp2_with fail
 refine Calls.mono cc.out ?_
 rintro e w2 ⟨rfl, W2, T⟩
 replace W2 := Lib.hid W2
 replace P := Lib.hid (P.out.st T (by have := hpg.out; simpa using this))
 replace S0 := Lib.hid (S0.out.trans T)
 replace V0 := Lib.hid (V0.out.st0 T (fun _ _ => trivial) (fun h0 j hj hm => hvv.out h0 j hj (by simpa using hm)))
 clear T cc z7
 dsimp only
 go_upto_region 11 with (fail)
 have l0 : ∀ y : LaterS [] w2, y.now.cell? ⟨gp, 0, none⟩ = some (.int .i64 201) := fun y => (hp_cell (P.out.bw y.bw) 0).trans rfl
 have l7 : ∀ y : LaterS [] w2, y.now.cell? ⟨gp, 7, none⟩ = some (.slice ar nr cr) := fun y => (hp_cell (P.out.bw y.bw) 7).trans rfl
 refine wp_region_gg [] [] [] (by kernel_rfl) ?_
 refine hoist [] [] (a1 := ?_) 0 rfl (by kernel_rfl) (.inl ⟨rfl, rfl⟩) rfl rfl rfl (fun x K hK => ?_) ?_
 rotate_left
 ·go_big_quiet_op
  exact hK
 refine hoist [] [] (a1 := ?_) 1 rfl (by kernel_rfl) (.inl ⟨rfl, rfl⟩) rfl rfl rfl (fun x K hK => ?_) ?_
 rotate_left
 ·go_big_quiet_op
  exact hK
 refine hoist [] [] (a1 := ?_) 2 rfl (by kernel_rfl) (.inl ⟨rfl, rfl⟩) rfl rfl rfl (fun x K hK => ?_) ?_
 rotate_left
 ·go_big_quiet_op
  exact hK
 refine hoist [] [] (a1 := ?_) 3 rfl (by kernel_rfl) (.inl ⟨rfl, rfl⟩) rfl rfl rfl (fun x K hK => ?_) ?_
 rotate_left
 ·go_big_quiet_op
  exact hK
 refine hoist [] [] (a1 := ?_) 4 rfl (by kernel_rfl) (.inl ⟨rfl, rfl⟩) rfl rfl rfl (fun x K hK => ?_) ?_
 rotate_left
 ·go_big_quiet_op
  exact hK
 refine hoist [] [] (a1 := ?_) 5 rfl (by kernel_rfl) (.inl ⟨rfl, rfl⟩) rfl rfl rfl (fun x K hK => ?_) ?_
 rotate_left
 ·go_big_quiet_op
  exact hK
 refine hoist [] [] (a1 := ?_) 6 rfl (by kernel_rfl) (.inl ⟨rfl, rfl⟩) rfl rfl rfl (fun x K hK => ?_) ?_
 rotate_left
 ·go_big_quiet_op
  exact hK
 refine done (by kernel_rfl) (fun xr => ?_)
 have W9 := Lib.hid (W2.out.bw xr.bw)
 have S9 := Lib.hid (S0.out.trans (xr.bw.still [g]))
 clear l0 l7 P W2 S0 V0
 go_wp2_with fail
 go_ret2
 exact ⟨rfl, by rw [hgp.out]; exact W9.out, S9.out⟩
set_option maxRecDepth 100000 in
set_option maxHeartbeats 8000000 in
theorem body_sdes (g s m t st pk oc : Nat) (ar an as_ al af : Option Addr) (nr nn ns nl nf cr cn cs cl_ cf rt : Nat)  (L : List (Nat × List Nat)) (hL : ∀ p ∈ L, p.1 < 4294967296 ∧ ByL p.2 ∧ p.2.length ≤ 100) (hn : nn ≤ 100) (w : World) (h : HpB w g (.cells #[.slice none 0 0] 152)) (hv : SQ EM w 0 (.slice an nn cn) nn L) (hvo : 0 < nn → ∀ k, (Value.slice an nn cn).ownBlock = some k → k ≠ g) :
  Calls Try.prog 85 #[.pointer (some ⟨g, 0, none⟩), .agg #[.int .i64 202, .int .u32 (s : Nat), .int .u32 (m : Nat), .int .u64 (t : Nat), .int .u32 (st : Nat), .int .u32 (pk : Nat), .int .u32 (oc : Nat), .slice ar nr cr, .slice an nn cn, .slice as_ ns cs, .slice al nl cl_, .slice af nf cf, .int .u64 (rt : Nat)]] w fun e w' => e = .returned (.tuple #[.int .i64 202, .int .i64 (nn : Nat)]) ∧ WrU w' w.heap.size g (namsB L) ∧ Still [g] w w' := by
 have c0 := fun wz h hq => Lib.hid (wnames_ok g (.slice an nn cn) nn L hL (by omega) wz h hq hvo)
 have BA : BW w (w.alloc (.cells #[.int .i64 202, .int .u32 (s : Nat), .int .u32 (m : Nat), .int .u64 (t : Nat), .int .u32 (st : Nat), .int .u32 (pk : Nat), .int .u32 (oc : Nat), .slice ar nr cr, .slice an nn cn, .slice as_ ns cs, .slice al nl cl_, .slice af nf cf, .int .u64 (rt : Nat)] 111)) := (BW.refl w).alloc
 have P := Lib.hid (HpB.new w (.cells #[.int .i64 202, .int .u32 (s : Nat), .int .u32 (m : Nat), .int .u64 (t : Nat), .int .u32 (st : Nat), .int .u32 (pk : Nat), .int .u32 (oc : Nat), .slice ar nr cr, .slice an nn cn, .slice as_ ns cs, .slice al nl cl_, .slice af nf cf, .int .u64 (rt : Nat)] 111))
 have H0 := Lib.hid (h.bw BA)
 have W0 : Hid (WrU (w.alloc (.cells #[.int .i64 202, .int .u32 (s : Nat), .int .u32 (m : Nat), .int .u64 (t : Nat), .int .u32 (st : Nat), .int .u32 (pk : Nat), .int .u32 (oc : Nat), .slice ar nr cr, .slice an nn cn, .slice as_ ns cs, .slice al nl cl_, .slice af nf cf, .int .u64 (rt : Nat)] 111)) w.heap.size g []) := ⟨none, 0, H0.out, OB.nil _ _ _⟩
 have S0 := Lib.hid (BA.still [g])
 have V0 := Lib.hid (hv.bw BA)
 have hvv := Lib.hid hvo
 have hn2 : (nn : Int) ≤ 100 := by omega
 have hg := Lib.hid h.lt
 clear h  hv hvo hL
 replace BA := Lib.hid BA
 go_enter Try.func85, Try.ntmps85
 go_upto_region 1 with (fail)
 generalize (w.alloc _) = w0 at *
 generalize hgp : w.heap.size = gp at *
 have hpg : Hid (gp ≠ g) := by have := hg.out; show _ ≠ _; omega
 clear BA
 replace hgp := Lib.hid hgp
 have z0 := (hp_cell P.out 0).trans (show _ = some (.int .i64 202) from rfl)
 have z8 := (hp_cell P.out 8).trans (show _ = some (.slice an nn cn) from rfl)
 have cc := c0 w0 H0.out V0.out
 clear c0 W0
 go_wp2_with fail
 refine Calls.mono cc.out ?_
 rintro e w1 ⟨rfl, W1, T⟩
 replace W1 := W1.up (bs' := gp) (by have := S0.out.size; have := hgp.out; omega)
 replace W1 := Lib.hid W1
 replace P := Lib.hid (P.out.st T (by have := hpg.out; simpa using this))
 replace S0 := Lib.hid (S0.out.trans T)
 replace V0 := Lib.hid (V0.out.st0 T (fun _ _ => trivial) (fun h0 j hj hm => hvv.out h0 j hj (by simpa using hm)))
 clear T cc z8 z0
 dsimp only
 go_upto_region 14 with (fail)
 have l0 : ∀ y : LaterS [] w1, y.now.cell? ⟨gp, 0, none⟩ = some (.int .i64 202) := fun y => (hp_cell (P.out.bw y.bw) 0).trans rfl
 have l7 : ∀ y : LaterS [] w1, y.now.cell? ⟨gp, 8, none⟩ = some (.slice an nn cn) := fun y => (hp_cell (P.out.bw y.bw) 8).trans rfl
 refine wp_region_gg [] [] [] (by kernel_rfl) ?_
 refine hoist [] [] (a1 := ?_) 0 rfl (by kernel_rfl) (.inl ⟨rfl, rfl⟩) rfl rfl rfl (fun x K hK => ?_) ?_
 rotate_left
 ·go_big_quiet_op
  exact hK
 refine hoist [] [] (a1 := ?_) 1 rfl (by kernel_rfl) (.inl ⟨rfl, rfl⟩) rfl rfl rfl (fun x K hK => ?_) ?_
 rotate_left
 ·go_big_quiet_op
  exact hK
 refine hoist [] [] (a1 := ?_) 2 rfl (by kernel_rfl) (.inl ⟨rfl, rfl⟩) rfl rfl rfl (fun x K hK => ?_) ?_
 rotate_left
 ·go_big_quiet_op
  exact hK
 refine hoist [] [] (a1 := ?_) 3 rfl (by kernel_rfl) (.inl ⟨rfl, rfl⟩) rfl rfl rfl (fun x K hK => ?_) ?_
 rotate_left
 ·go_big_quiet_op
  exact hK
 refine hoist [] [] (a1 := ?_) 4 rfl (by kernel_rfl) (.inl ⟨rfl, rfl⟩) rfl rfl rfl (fun x K hK => ?_) ?_
 rotate_left
 ·go_big_quiet_op
  exact hK
 refine hoist [] [] (a1 := ?_) 5 rfl (by kernel_rfl) (.inl ⟨rfl, rfl⟩) rfl rfl rfl (fun x K hK => ?_) ?_
 rotate_left
 ·go_big_quiet_op
  exact hK
 refine hoist [] [] (a1 := ?_) 6 rfl (by kernel_rfl) (.inl ⟨rfl, rfl⟩) rfl rfl rfl (fun x K hK => ?_) ?_
 rotate_left
 ·go_big_quiet_op
  exact hK
 refine done (by kernel_rfl) (fun xr => ?_)
 have W9 := Lib.hid (W1.out.bw xr.bw)
 have S9 := Lib.hid (S0.out.trans (xr.bw.still [g]))
 clear l0 l7 P W1 S0 V0
 go_wp2_with fail
 go_ret2
 exact ⟨rfl, by rw [hgp.out]; exact W9.out, S9.out⟩
set_option maxRecDepth 100000 in
set_option maxHeartbeats 8000000 in
theorem body_bye (g s m t st pk oc : Nat) (ar an as_ al af : Option Addr) (nr nn ns nl nf cr cn cs cl_ cf rt : Nat)  (L : List Nat) (hL : ∀ x ∈ L, x < 4294967296) (hn : ns ≤ 100) (w : World) (h : HpB w g (.cells #[.slice none 0 0] 152)) (hv : SQ ES w 0 (.slice as_ ns cs) ns L) (hvo : 0 < ns → ∀ k, (Value.slice as_ ns cs).ownBlock = some k → k ≠ g) :
  Calls Try.prog 85 #[.pointer (some ⟨g, 0, none⟩), .agg #[.int .i64 203, .int .u32 (s : Nat), .int .u32 (m : Nat), .int .u64 (t : Nat), .int .u32 (st : Nat), .int .u32 (pk : Nat), .int .u32 (oc : Nat), .slice ar nr cr, .slice an nn cn, .slice as_ ns cs, .slice al nl cl_, .slice af nf cf, .int .u64 (rt : Nat)]] w fun e w' => e = .returned (.tuple #[.int .i64 203, .int .i64 (ns : Nat)]) ∧ WrU w' w.heap.size g (wordsB L) ∧ Still [g] w w' := by
 have c0 := fun wz (hz : w.heap.size ≤ wz.heap.size) (h : WrU wz w.heap.size g []) hq => Lib.hid (wwordsU_ok w.heap.size g [] (.slice as_ ns cs) ns L 0 hL (by omega) (by simp) wz hz h hq hvo)
 try simp only [List.nil_append] at c0
 have BA : BW w (w.alloc (.cells #[.int .i64 203, .int .u32 (s : Nat), .int .u32 (m : Nat), .int .u64 (t : Nat), .int .u32 (st : Nat), .int .u32 (pk : Nat), .int .u32 (oc : Nat), .slice ar nr cr, .slice an nn cn, .slice as_ ns cs, .slice al nl cl_, .slice af nf cf, .int .u64 (rt : Nat)] 111)) := (BW.refl w).alloc
 have P := Lib.hid (HpB.new w (.cells #[.int .i64 203, .int .u32 (s : Nat), .int .u32 (m : Nat), .int .u64 (t : Nat), .int .u32 (st : Nat), .int .u32 (pk : Nat), .int .u32 (oc : Nat), .slice ar nr cr, .slice an nn cn, .slice as_ ns cs, .slice al nl cl_, .slice af nf cf, .int .u64 (rt : Nat)] 111))
 have H0 := Lib.hid (h.bw BA)
 have W0 : Hid (WrU (w.alloc (.cells #[.int .i64 203, .int .u32 (s : Nat), .int .u32 (m : Nat), .int .u64 (t : Nat), .int .u32 (st : Nat), .int .u32 (pk : Nat), .int .u32 (oc : Nat), .slice ar nr cr, .slice an nn cn, .slice as_ ns cs, .slice al nl cl_, .slice af nf cf, .int .u64 (rt : Nat)] 111)) w.heap.size g []) := ⟨none, 0, H0.out, OB.nil _ _ _⟩
 have S0 := Lib.hid (BA.still [g])
 have V0 := Lib.hid (hv.bw BA)
 have hvv := Lib.hid hvo
 have hn2 : (ns : Int) ≤ 100 := by omega
 have hg := Lib.hid h.lt
 clear h  hv hvo hL
 replace BA := Lib.hid BA
 go_enter Try.func85, Try.ntmps85
 go_upto_region 1 with (fail)
 generalize (w.alloc _) = w0 at *
 generalize hgp : w.heap.size = gp at *
 have hpg : Hid (gp ≠ g) := by have := hg.out; show _ ≠ _; omega
 clear BA
 replace hgp := Lib.hid hgp
 have z0 := (hp_cell P.out 0).trans (show _ = some (.int .i64 203) from rfl)
 have z9 := (hp_cell P.out 9).trans (show _ = some (.slice as_ ns cs) from rfl)
 have cc := c0 w0 (by have := S0.out.size; have := hgp.out; omega) W0.out V0.out
 clear c0 W0
 go_wp2_with fail
 refine Calls.mono cc.out ?_
 rintro e w1 ⟨rfl, W1, T⟩
 replace W1 := Lib.hid W1
 replace P := Lib.hid (P.out.st T (by have := hpg.out; simpa using this))
 replace S0 := Lib.hid (S0.out.trans T)
 replace V0 := Lib.hid (V0.out.st0 T (fun _ _ => trivial) (fun h0 j hj hm => hvv.out h0 j hj (by simpa using hm)))
 clear T cc z9 z0
 dsimp only
 go_upto_region 17 with (fail)
 have l0 : ∀ y : LaterS [] w1, y.now.cell? ⟨gp, 0, none⟩ = some (.int .i64 203) := fun y => (hp_cell (P.out.bw y.bw) 0).trans rfl
 have l7 : ∀ y : LaterS [] w1, y.now.cell? ⟨gp, 9, none⟩ = some (.slice as_ ns cs) := fun y => (hp_cell (P.out.bw y.bw) 9).trans rfl
 refine wp_region_gg [] [] [] (by kernel_rfl) ?_
 refine hoist [] [] (a1 := ?_) 0 rfl (by kernel_rfl) (.inl ⟨rfl, rfl⟩) rfl rfl rfl (fun x K hK => ?_) ?_
 rotate_left
 ·go_big_quiet_op
  exact hK
 refine hoist [] [] (a1 := ?_) 1 rfl (by kernel_rfl) (.inl ⟨rfl, rfl⟩) rfl rfl rfl (fun x K hK => ?_) ?_
 rotate_left
 ·go_big_quiet_op
  exact hK
 refine hoist [] [] (a1 := ?_) 2 rfl (by kernel_rfl) (.inl ⟨rfl, rfl⟩) rfl rfl rfl (fun x K hK => ?_) ?_
 rotate_left
 ·go_big_quiet_op
  exact hK
 refine hoist [] [] (a1 := ?_) 3 rfl (by kernel_rfl) (.inl ⟨rfl, rfl⟩) rfl rfl rfl (fun x K hK => ?_) ?_
 rotate_left
 ·go_big_quiet_op
  exact hK
 refine hoist [] [] (a1 := ?_) 4 rfl (by kernel_rfl) (.inl ⟨rfl, rfl⟩) rfl rfl rfl (fun x K hK => ?_) ?_
 rotate_left
 ·go_big_quiet_op
  exact hK
 refine hoist [] [] (a1 := ?_) 5 rfl (by kernel_rfl) (.inl ⟨rfl, rfl⟩) rfl rfl rfl (fun x K hK => ?_) ?_
 rotate_left
 ·go_big_quiet_op
  exact hK
 refine hoist [] [] (a1 := ?_) 6 rfl (by kernel_rfl) (.inl ⟨rfl, rfl⟩) rfl rfl rfl (fun x K hK => ?_) ?_
 rotate_left
 ·go_big_quiet_op
  exact hK
 refine done (by kernel_rfl) (fun xr => ?_)
 have W9 := Lib.hid (W1.out.bw xr.bw)
 have S9 := Lib.hid (S0.out.trans (xr.bw.still [g]))
 clear l0 l7 P W1 S0 V0
 go_wp2_with fail
 go_ret2
 exact ⟨rfl, by rw [hgp.out]; exact W9.out, S9.out⟩
set_option maxRecDepth 100000 in
set_option maxHeartbeats 8000000 in
theorem body_pli (g s m t st pk oc : Nat) (ar an as_ al af : Option Addr) (nr nn ns nl nf cr cn cs cl_ cf rt : Nat) (hs : s < 4294967296) (hm : m < 4294967296)  (w : World) (h : HpB w g (.cells #[.slice none 0 0] 152)) :
  Calls Try.prog 85 #[.pointer (some ⟨g, 0, none⟩), .agg #[.int .i64 2, .int .u32 (s : Nat), .int .u32 (m : Nat), .int .u64 (t : Nat), .int .u32 (st : Nat), .int .u32 (pk : Nat), .int .u32 (oc : Nat), .slice ar nr cr, .slice an nn cn, .slice as_ ns cs, .slice al nl cl_, .slice af nf cf, .int .u64 (rt : Nat)]] w fun e w' => e = .returned (.tuple #[.int .i64 206, .int .i64 1]) ∧ WrU w' w.heap.size g (wordsB [s, m]) ∧ Still [g] w w' := by
 have c0 := fun wz gz (hz : w.heap.size ≤ wz.heap.size) (h : WrU wz w.heap.size g []) hq ho => Lib.hid (wwordsU_ok w.heap.size g [] (.slice (some ⟨gz, 0, none⟩) 2 2) 2 [s, m] 0 (by simp; omega) (by omega) (by simp [wordsB_len, putB_len]) wz hz h hq ho)
 try simp only [List.nil_append] at c0
 have BA : BW w (w.alloc (.cells #[.int .i64 2, .int .u32 (s : Nat), .int .u32 (m : Nat), .int .u64 (t : Nat), .int .u32 (st : Nat), .int .u32 (pk : Nat), .int .u32 (oc : Nat), .slice ar nr cr, .slice an nn cn, .slice as_ ns cs, .slice al nl cl_, .slice af nf cf, .int .u64 (rt : Nat)] 111)) := (BW.refl w).alloc
 have P := Lib.hid (HpB.new w (.cells #[.int .i64 2, .int .u32 (s : Nat), .int .u32 (m : Nat), .int .u64 (t : Nat), .int .u32 (st : Nat), .int .u32 (pk : Nat), .int .u32 (oc : Nat), .slice ar nr cr, .slice an nn cn, .slice as_ ns cs, .slice al nl cl_, .slice af nf cf, .int .u64 (rt : Nat)] 111))
 have H0 := Lib.hid (h.bw BA)
 have W0 : Hid (WrU (w.alloc (.cells #[.int .i64 2, .int .u32 (s : Nat), .int .u32 (m : Nat), .int .u64 (t : Nat), .int .u32 (st : Nat), .int .u32 (pk : Nat), .int .u32 (oc : Nat), .slice ar nr cr, .slice an nn cn, .slice as_ ns cs, .slice al nl cl_, .slice af nf cf, .int .u64 (rt : Nat)] 111)) w.heap.size g []) := ⟨none, 0, H0.out, OB.nil _ _ _⟩
 have S0 := Lib.hid (BA.still [g])
 have hg := Lib.hid h.lt
 clear h hs hm
 replace BA := Lib.hid BA
 go_enter Try.func85, Try.ntmps85
 go_upto_region 1 with (fail)
 generalize (w.alloc _) = w0 at *
 generalize hgp : w.heap.size = gp at *
 have hpg : Hid (gp ≠ g) := by have := hg.out; show _ ≠ _; omega
 clear BA
 replace hgp := Lib.hid hgp
 have z0 := (hp_cell P.out 0).trans (show _ = some (.int .i64 2) from rfl)
 have z1 := (hp_cell P.out 1).trans (show _ = some (.int .u32 (s : Nat)) from rfl)
 have z2 := (hp_cell P.out 2).trans (show _ = some (.int .u32 (m : Nat)) from rfl)
 have BS : BW w0 (w0.alloc (.cells #[.int .u32 (s : Nat), .int .u32 (m : Nat)] 73)) := (BW.refl w0).alloc
 have Q := Lib.hid (SQ_srcs w0 0 [s, m] #[.int .u32 (s : Nat), .int .u32 (m : Nat)] rfl 2 rfl (by omega) (by omega))
 have hlt := Lib.hid (W0.out.lt)
 have cc := c0 _ w0.heap.size (by have := (S0.out.trans (BS.still [g])).size; have := hgp.out; omega) (W0.out.bw BS) Q.out (fun _ j hj => by simp [Value.ownBlock] at hj; have := hlt.out; omega)
 replace P := Lib.hid (P.out.bw BS)
 replace S0 := Lib.hid (S0.out.trans (BS.still [g]))
 clear Q hlt c0 W0
 replace BS := Lib.hid BS
 go_wp2_with fail
 refine Calls.mono cc.out ?_
 rintro e w1 ⟨rfl, W1, T⟩
 replace W1 := Lib.hid W1
 replace P := Lib.hid (P.out.st T (by have := hpg.out; simpa using this))
 replace S0 := Lib.hid (S0.out.trans T)
 clear T cc BS z1 z2 z0
 dsimp only
 go_wp2_with fail
 go_ret2
 exact ⟨rfl, by rw [hgp.out]; exact W1.out, S0.out⟩
end Go.Proofs.Ytcempndfbckcaaa

namespace Go.Proofs.Ytcempndfbckcaaa
open Go.RowKit
def lossB (l : List (Nat × Nat)) : List Nat := (l.map fun p => putB 2 p.1 ++ putB 2 p.2).flatten
def firB (l : List (Nat × Nat)) : List Nat := (l.map fun p => wordsB [p.1, p.2 * 16777216]).flatten
theorem lossB_len (l : List (Nat × Nat)) : (lossB l).length = 4 * l.length := by
 induction l with
 | nil => rfl
 | cons p l ih => simp [lossB, putB_len] at ih ⊢; omega
theorem firB_len (l : List (Nat × Nat)) : (firB l).length = 8 * l.length := by
 induction l with
 | nil => rfl
 | cons p l ih => simp [firB, wordsB_len] at ih ⊢; omega
theorem lossB_snoc (l : List (Nat × Nat)) (k : Nat) (h : k < l.length) : lossB (l.take (k + 1)) = lossB (l.take k) ++ (putB 2 (l[k]).1 ++ putB 2 (l[k]).2) := by
 unfold lossB
 rw [List.take_succ_eq_append_getElem h, List.map_append, List.flatten_append]
 simp
theorem firB_snoc (l : List (Nat × Nat)) (k : Nat) (h : k < l.length) : firB (l.take (k + 1)) = firB (l.take k) ++ wordsB [(l[k]).1, (l[k]).2 * 16777216] := by
 unfold firB
 rw [List.take_succ_eq_append_getElem h, List.map_append, List.flatten_append]
 simp
set_option maxRecDepth 100000 in
set_option maxHeartbeats 8000000 in
theorem body_nack (g s m t st pk oc : Nat) (ar an as_ al af : Option Addr) (nr nn ns nl nf cr cn cs cl_ cf rt : Nat) (hs : s < 4294967296) (hm : m < 4294967296) (L : List (Nat × Nat)) (hL : ∀ p ∈ L, p.1 < 65536 ∧ p.2 < 65536) (hn : nl ≤ 100) (w : World) (h : HpB w g (.cells #[.slice none 0 0] 152)) (hv : SQ EO w 0 (.slice al nl cl_) nl L) (hvo : 0 < nl → ∀ k, (Value.slice al nl cl_).ownBlock = some k → k ≠ g) :
  Calls Try.prog 85 #[.pointer (some ⟨g, 0, none⟩), .agg #[.int .i64 1, .int .u32 (s : Nat), .int .u32 (m : Nat), .int .u64 (t : Nat), .int .u32 (st : Nat), .int .u32 (pk : Nat), .int .u32 (oc : Nat), .slice ar nr cr, .slice an nn cn, .slice as_ ns cs, .slice al nl cl_, .slice af nf cf, .int .u64 (rt : Nat)]] w fun e w' => e = .returned (.tuple #[.int .i64 205, .int .i64 1]) ∧ WrU w' w.heap.size g (wordsB [s, m] ++ lossB L) ∧ Still [g] w w' := by
 have c0 := fun wz gz (hz : w.heap.size ≤ wz.heap.size) (h : WrU wz w.heap.size g []) hq ho => Lib.hid (wwordsU_ok w.heap.size g [] (.slice (some ⟨gz, 0, none⟩) 2 2) 2 [s, m] 0 (by simp; omega) (by omega) (by simp) wz hz h hq ho)
 simp only [List.nil_append] at c0
 have hxl := hv.1
 have hfull : lossB (L.take nl) = lossB L := by rw [← hxl, List.take_length]
 have hst := fun k (h : k < L.length) => lossB_snoc L k h
 have hln := fun k => lossB_len (L.take k)
 have BA : BW w (w.alloc (.cells #[.int .i64 1, .int .u32 (s : Nat), .int .u32 (m : Nat), .int .u64 (t : Nat), .int .u32 (st : Nat), .int .u32 (pk : Nat), .int .u32 (oc : Nat), .slice ar nr cr, .slice an nn cn, .slice as_ ns cs, .slice al nl cl_, .slice af nf cf, .int .u64 (rt : Nat)] 111)) := (BW.refl w).alloc
 have P := Lib.hid (HpB.new w (.cells #[.int .i64 1, .int .u32 (s : Nat), .int .u32 (m : Nat), .int .u64 (t : Nat), .int .u32 (st : Nat), .int .u32 (pk : Nat), .int .u32 (oc : Nat), .slice ar nr cr, .slice an nn cn, .slice as_ ns cs, .slice al nl cl_, .slice af nf cf, .int .u64 (rt : Nat)] 111))
 have H0 := Lib.hid (h.bw BA)
 have W0 : Hid (WrU (w.alloc (.cells #[.int .i64 1, .int .u32 (s : Nat), .int .u32 (m : Nat), .int .u64 (t : Nat), .int .u32 (st : Nat), .int .u32 (pk : Nat), .int .u32 (oc : Nat), .slice ar nr cr, .slice an nn cn, .slice as_ ns cs, .slice al nl cl_, .slice af nf cf, .int .u64 (rt : Nat)] 111)) w.heap.size g []) := ⟨none, 0, H0.out, OB.nil _ _ _⟩
 have S0 := Lib.hid (BA.still [g])
 obtain ⟨_, _, he, hcap, hmx⟩ := hv.len
 cases he
 unfold maxLen at hmx
 have hVw := Lib.hid hv
 have hg := Lib.hid h.lt
 have hn2 : (nl : Int) ≤ 100 := by omega
 clear h hv hs hm
 replace BA := Lib.hid BA
 replace hfull := Lib.hid hfull
 replace hst := Lib.hid hst
 replace hln := Lib.hid hln
 replace hxl := Lib.hid hxl
 replace hvo := Lib.hid hvo
 replace hL := Lib.hid hL
 go_enter Try.func85, Try.ntmps85
 go_upto_region 1 with (fail)
 generalize (w.alloc _) = w0 at *
 generalize hgp : w.heap.size = gp at *
 have hpg : Hid (gp ≠ g ∧ g < gp) := by have := hg.out; show _ ∧ _; omega
 clear BA
 replace hgp := Lib.hid hgp
 have z0 := (hp_cell P.out 0).trans (show _ = some (.int .i64 1) from rfl)
 have z1 := (hp_cell P.out 1).trans (show _ = some (.int .u32 (s : Nat)) from rfl)
 have z2 := (hp_cell P.out 2).trans (show _ = some (.int .u32 (m : Nat)) from rfl)
 have BS : BW w0 (w0.alloc (.cells #[.int .u32 (s : Nat), .int .u32 (m : Nat)] 73)) := (BW.refl w0).alloc
 have Q := Lib.hid (SQ_srcs w0 0 [s, m] #[.int .u32 (s : Nat), .int .u32 (m : Nat)] rfl 2 rfl (by omega) (by omega))
 have hlt := Lib.hid (W0.out.lt)
 have cc := c0 _ w0.heap.size (by have := (S0.out.trans (BS.still [g])).size; have := hgp.out; omega) (W0.out.bw BS) Q.out (fun _ j hj => by simp [Value.ownBlock] at hj; have := hlt.out; omega)
 replace P := Lib.hid (P.out.bw BS)
 replace S0 := Lib.hid (S0.out.trans (BS.still [g]))
 clear Q hlt c0 W0 H0
 replace BS := Lib.hid BS
 go_wp2_with fail
 refine Calls.mono cc.out ?_
 rintro e w1 ⟨rfl, W1, T⟩
 replace P := Lib.hid (P.out.st T (by have := hpg.out.1; simpa using this))
 replace S0 := Lib.hid (S0.out.trans T)
 replace W1 := Lib.hid W1
 clear T cc BS z0 z1 z2
 dsimp only
 have z10 := (hp_cell P.out 10).trans (show _ = some (.slice al nl cl_) from rfl)
 go_upto_region 21 with (fail)
 clear z10 P
 go_loopg [91] nl (fun m' a wx => ∃ k : Nat, m' = nl - k ∧ k ≤ nl ∧ a = .int .i64 (k : Nat) ∧ Hid (WrU wx gp g (wordsB [s, m] ++ lossB (L.take k)) ∧ Still [g] w wx))
 case atStart => exact ⟨0, rfl, by omega, rfl, by show _ ∧ _; exact ⟨by simpa [lossB] using W1.out, S0.out⟩⟩
 case round =>
  clear W1 S0
  obtain ⟨k, rfl, hk, rfl, hp⟩ := hrel
  by_cases hkn : k < nl
  ·have d : decide ((k : Int) < (nl : Int)) = true := by simp; omega
   have hkl : k < L.length := by rw [hxl.out]; exact hkn
   have hVr := hVw.out.still hp.out.2 (fun _ _ => trivial) (fun j hj hm => hvo.out (by omega) j hj (by simpa using hm))
   obtain ⟨b, o, rfl, hb, hcc⟩ := sq_cells hVr (by omega)
   obtain ⟨cs, hcs, hce⟩ := hcc k hkl
   replace hcs : cs = lossV (L[k]) := hcs
   replace hce : ∀ j, j < 2 → wr.cell? ⟨b, o + k * 2 + j, none⟩ = (lossV (L[k]))[j]? := fun j hj => by rw [← hcs]; exact hce j hj
   have hs1 := hst.out k hkl
   obtain ⟨v1, v2⟩ := hL.out _ (List.getElem_mem hkl)
   have qm := hln.out k
   have hkm : (L.take k).length ≤ 100 := by rw [List.length_take]; omega
   clear hcs hcc hVr
   generalize L[k] = r at *
   obtain ⟨p, q⟩ := r
   have y0 : wr.cell? ⟨b, o + k * 2, none⟩ = some (.int .u16 (p : Nat)) := hce 0 (by decide)
   have y1 : wr.cell? ⟨b, o + k * 2 + 1, none⟩ = some (.int .u16 (q : Nat)) := hce 1 (by decide)
   dsimp only at v1 v2
   clear hce
   have hAl : (wordsB [s, m] ++ lossB (L.take k)).length ≤ 1100 := by rw [List.length_append, wordsB_len]; simp; omega
   clear qm hkm
   generalize hA : wordsB [s, m] ++ lossB (L.take k) = A at *
   have hfin : wordsB [s, m] ++ lossB (L.take (k + 1)) = (A ++ putB 2 p) ++ putB 2 q := by rw [hs1, ← List.append_assoc, hA, ← List.append_assoc]
   have k1 := fun wz (hz : gp ≤ wz.heap.size) (h : WrU wz gp g A) => Lib.hid (wnumU_ok gp g A 2 p 2 (by decide) (by decide) rfl (by omega) (by omega) wz hz h)
   have k2 := fun wz (hz : gp ≤ wz.heap.size) (h : WrU wz gp g (A ++ putB 2 p)) => Lib.hid (wnumU_ok gp g (A ++ putB 2 p) 2 q 2 (by decide) (by decide) rfl (by omega) (by rw [List.length_append, putB_len]; omega) wz hz h)
   have hpb : (p : Int) ≤ 65535 := by omega
   have hqb : (q : Int) ≤ 65535 := by omega
   have BA : BW wr (wr.alloc (.cells #[.int .u16 (p : Nat), .int .u16 (q : Nat)] 30)) := (BW.refl _).alloc
   have P := Lib.hid (HpB.new wr (.cells #[.int .u16 (p : Nat), .int .u16 (q : Nat)] 30))
   have W2 := Lib.hid (hp.out.1.bw BA)
   have S2 := Lib.hid (hp.out.2.trans (BA.still [g]))
   have hgq : Hid (g < wr.heap.size) := hp.out.1.lt
   clear hp hs1 hA hAl v1 v2
   replace BA := Lib.hid BA
   replace hfin := Lib.hid hfin
   go_upto_region 23 with (fail)
   generalize (wr.alloc _) = w2 at *
   generalize wr.heap.size = gq at *
   clear y0 y1 BA
   have z0 := (hp_cell P.out 0).trans (show _ = some (.int .u16 (p : Nat)) from rfl)
   have k1a := k1 w2 (by have := S2.out.size; have := hgp.out; omega) W2.out
   clear W2 k1
   go_wp2_with fail
   refine Calls.mono k1a.out ?_
   rintro e w3 ⟨rfl, W3, T3⟩
   have P3 := Lib.hid (P.out.st T3 (by have := hgq.out; simp; omega))
   have S3 := Lib.hid (S2.out.trans T3)
   have k2a := k2 w3 (by have := S3.out.size; have := hgp.out; omega) W3
   clear z0 T3 W3 P S2 k1a k2
   dsimp only
   have z1 := (hp_cell P3.out 1).trans (show _ = some (.int .u16 (q : Nat)) from rfl)
   go_wp2_with fail
   refine Calls.mono k2a.out ?_
   rintro e w4 ⟨rfl, W4, T4⟩
   have hp3 : Hid (WrU w4 gp g (wordsB [s, m] ++ lossB (L.take (k + 1))) ∧ Still [g] w w4) := ⟨by rw [hfin.out]; exact W4, S3.out.trans T4⟩
   clear W4 T4 S3 k2a z1 P3
   dsimp only
   go_wp2_with fail
   go_roundg (nl - (k + 1))
   case measure => omega
   case rel => exact ⟨k + 1, rfl, by omega, by push_cast; rfl, hp3⟩
  ·obtain rfl : k = nl := by omega
   have d : decide ((k : Int) < (k : Int)) = false := by simp
   have hp3 := hp.out
   rw [hfull.out] at hp3
   replace hp3 := Lib.hid hp3
   clear hp
   go_wp2_with fail
   go_ret2
   exact ⟨rfl, by rw [hgp.out]; exact hp3.out.1, hp3.out.2⟩
set_option maxRecDepth 100000 in
set_option maxHeartbeats 8000000 in
theorem body_fir (g s m t st pk oc : Nat) (ar an as_ al af : Option Addr) (nr nn ns nl nf cr cn cs cl_ cf rt : Nat) (hs : s < 4294967296) (hm : m < 4294967296) (L : List (Nat × Nat)) (hL : ∀ p ∈ L, p.1 < 4294967296 ∧ p.2 < 256) (hn : nf ≤ 100) (w : World) (h : HpB w g (.cells #[.slice none 0 0] 152)) (hv : SQ EF w 0 (.slice af nf cf) nf L) (hvo : 0 < nf → ∀ k, (Value.slice af nf cf).ownBlock = some k → k ≠ g) :
  Calls Try.prog 85 #[.pointer (some ⟨g, 0, none⟩), .agg #[.int .i64 3, .int .u32 (s : Nat), .int .u32 (m : Nat), .int .u64 (t : Nat), .int .u32 (st : Nat), .int .u32 (pk : Nat), .int .u32 (oc : Nat), .slice ar nr cr, .slice an nn cn, .slice as_ ns cs, .slice al nl cl_, .slice af nf cf, .int .u64 (rt : Nat)]] w fun e w' => e = .returned (.tuple #[.int .i64 206, .int .i64 4]) ∧ WrU w' w.heap.size g (wordsB [s, 0] ++ firB L) ∧ Still [g] w w' := by
 have c0 := fun wz gz (hz : w.heap.size ≤ wz.heap.size) (h : WrU wz w.heap.size g []) hq ho => Lib.hid (wwordsU_ok w.heap.size g [] (.slice (some ⟨gz, 0, none⟩) 2 2) 2 [s, 0] 0 (by simp; omega) (by omega) (by simp) wz hz h hq ho)
 simp only [List.nil_append] at c0
 have hxl := hv.1
 have hfull : firB (L.take nf) = firB L := by rw [← hxl, List.take_length]
 have hst := fun k (h : k < L.length) => firB_snoc L k h
 have hln := fun k => firB_len (L.take k)
 have BA : BW w (w.alloc (.cells #[.int .i64 3, .int .u32 (s : Nat), .int .u32 (m : Nat), .int .u64 (t : Nat), .int .u32 (st : Nat), .int .u32 (pk : Nat), .int .u32 (oc : Nat), .slice ar nr cr, .slice an nn cn, .slice as_ ns cs, .slice al nl cl_, .slice af nf cf, .int .u64 (rt : Nat)] 111)) := (BW.refl w).alloc
 have P := Lib.hid (HpB.new w (.cells #[.int .i64 3, .int .u32 (s : Nat), .int .u32 (m : Nat), .int .u64 (t : Nat), .int .u32 (st : Nat), .int .u32 (pk : Nat), .int .u32 (oc : Nat), .slice ar nr cr, .slice an nn cn, .slice as_ ns cs, .slice al nl cl_, .slice af nf cf, .int .u64 (rt : Nat)] 111))
 have H0 := Lib.hid (h.bw BA)
 have W0 : Hid (WrU (w.alloc (.cells #[.int .i64 3, .int .u32 (s : Nat), .int .u32 (m : Nat), .int .u64 (t : Nat), .int .u32 (st : Nat), .int .u32 (pk : Nat), .int .u32 (oc : Nat), .slice ar nr cr, .slice an nn cn, .slice as_ ns cs, .slice al nl cl_, .slice af nf cf, .int .u64 (rt : Nat)] 111)) w.heap.size g []) := ⟨none, 0, H0.out, OB.nil _ _ _⟩
 have S0 := Lib.hid (BA.still [g])
 obtain ⟨_, _, he, hcap, hmx⟩ := hv.len
 cases he
 unfold maxLen at hmx
 have hVw := Lib.hid hv
 have hg := Lib.hid h.lt
 have hn2 : (nf : Int) ≤ 100 := by omega
 clear h hv hs hm
 replace BA := Lib.hid BA
 replace hfull := Lib.hid hfull
 replace hst := Lib.hid hst
 replace hln := Lib.hid hln
 replace hxl := Lib.hid hxl
 replace hvo := Lib.hid hvo
 replace hL := Lib.hid hL
 go_enter Try.func85, Try.ntmps85
 go_upto_region 1 with (fail)
 generalize (w.alloc _) = w0 at *
 generalize hgp : w.heap.size = gp at *
 have hpg : Hid (gp ≠ g ∧ g < gp) := by have := hg.out; show _ ∧ _; omega
 clear BA
 replace hgp := Lib.hid hgp
 have z0 := (hp_cell P.out 0).trans (show _ = some (.int .i64 3) from rfl)
 have z1 := (hp_cell P.out 1).trans (show _ = some (.int .u32 (s : Nat)) from rfl)
 have BS : BW w0 (w0.alloc (.cells #[.int .u32 (s : Nat), .int .u32 0] 73)) := (BW.refl w0).alloc
 have Q := Lib.hid (SQ_srcs w0 0 [s, 0] #[.int .u32 (s : Nat), .int .u32 0] rfl 2 rfl (by omega) (by omega))
 have hlt := Lib.hid (W0.out.lt)
 have cc := c0 _ w0.heap.size (by have := (S0.out.trans (BS.still [g])).size; have := hgp.out; omega) (W0.out.bw BS) Q.out (fun _ j hj => by simp [Value.ownBlock] at hj; have := hlt.out; omega)
 replace P := Lib.hid (P.out.bw BS)
 replace S0 := Lib.hid (S0.out.trans (BS.still [g]))
 clear Q hlt c0 W0 H0
 replace BS := Lib.hid BS
 go_wp2_with fail
 refine Calls.mono cc.out ?_
 rintro e w1 ⟨rfl, W1, T⟩
 replace P := Lib.hid (P.out.st T (by have := hpg.out.1; simpa using this))
 replace S0 := Lib.hid (S0.out.trans T)
 replace W1 := Lib.hid W1
 clear T cc BS z0 z1
 dsimp only
 have z11 := (hp_cell P.out 11).trans (show _ = some (.slice af nf cf) from rfl)
 go_upto_region 33 with (fail)
 clear z11 P
 go_loopg [125] nf (fun m' a wx => ∃ k : Nat, m' = nf - k ∧ k ≤ nf ∧ a = .int .i64 (k : Nat) ∧ Hid (WrU wx gp g (wordsB [s, 0] ++ firB (L.take k)) ∧ Still [g] w wx))
 case atStart => exact ⟨0, rfl, by omega, rfl, by show _ ∧ _; exact ⟨by simpa [firB] using W1.out, S0.out⟩⟩
 case round =>
  clear W1 S0
  obtain ⟨k, rfl, hk, rfl, hp⟩ := hrel
  by_cases hkn : k < nf
  ·have d : decide ((k : Int) < (nf : Int)) = true := by simp; omega
   have hkl : k < L.length := by rw [hxl.out]; exact hkn
   have hVr := hVw.out.still hp.out.2 (fun _ _ => trivial) (fun j hj hm => hvo.out (by omega) j hj (by simpa using hm))
   obtain ⟨b, o, rfl, hb, hcc⟩ := sq_cells hVr (by omega)
   obtain ⟨cs, hcs, hce⟩ := hcc k hkl
   replace hcs : cs = firV (L[k]) := hcs
   replace hce : ∀ j, j < 2 → wr.cell? ⟨b, o + k * 2 + j, none⟩ = (firV (L[k]))[j]? := fun j hj => by rw [← hcs]; exact hce j hj
   have hs1 := hst.out k hkl
   obtain ⟨v1, v2⟩ := hL.out _ (List.getElem_mem hkl)
   have qm := hln.out k
   have hkm : (L.take k).length ≤ 100 := by rw [List.length_take]; omega
   clear hcs hcc hVr
   generalize L[k] = r at *
   obtain ⟨p, q⟩ := r
   have y0 : wr.cell? ⟨b, o + k * 2, none⟩ = some (.int .u32 (p : Nat)) := hce 0 (by decide)
   have y1 : wr.cell? ⟨b, o + k * 2 + 1, none⟩ = some (.int .u8 (q : Nat)) := hce 1 (by decide)
   dsimp only at v1 v2
   clear hce
   have hAl : (wordsB [s, 0] ++ firB (L.take k)).length ≤ 1100 := by rw [List.length_append, wordsB_len]; simp; omega
   clear qm hkm
   generalize hA : wordsB [s, 0] ++ firB (L.take k) = A at *
   obtain ⟨q2, hq2⟩ : ∃ q2, q2 = q * 16777216 := ⟨_, rfl⟩
   have hfin : wordsB [s, 0] ++ firB (L.take (k + 1)) = A ++ wordsB [p, q2] := by rw [hs1, ← List.append_assoc, hA, hq2]
   have hq4 : q2 < 4294967296 := by omega
   have k1 := fun wz gz (hz : gp ≤ wz.heap.size) (h : WrU wz gp g A) hq ho => Lib.hid (wwordsU_ok gp g A (.slice (some ⟨gz, 0, none⟩) 2 2) 2 [p, q2] 0 (by simp; omega) (by omega) (by omega) wz hz h hq ho)
   have eq : (q : Int) * 16777216 = (q2 : Int) := by omega
   have hq3 : q2 ≤ 4278190080 := by omega
   have hqb : (q : Int) ≤ 255 := by omega
   clear hq2 hq4
   have BA : BW wr (wr.alloc (.cells #[.int .u32 (p : Nat), .int .u8 (q : Nat)] 194)) := (BW.refl _).alloc
   have P := Lib.hid (HpB.new wr (.cells #[.int .u32 (p : Nat), .int .u8 (q : Nat)] 194))
   have W2 := Lib.hid (hp.out.1.bw BA)
   have S2 := Lib.hid (hp.out.2.trans (BA.still [g]))
   have hgq : Hid (g < wr.heap.size) := hp.out.1.lt
   clear hp hs1 hA hAl v1 v2
   replace BA := Lib.hid BA
   replace hfin := Lib.hid hfin
   go_upto_region 35 with (fail)
   generalize (wr.alloc _) = w2 at *
   generalize wr.heap.size = gq at *
   clear y0 y1 BA
   have z0 := (hp_cell P.out 0).trans (show _ = some (.int .u32 (p : Nat)) from rfl)
   have z1 := (hp_cell P.out 1).trans (show _ = some (.int .u8 (q : Nat)) from rfl)
   have BS : BW w2 (w2.alloc (.cells #[.int .u32 (p : Nat), .int .u32 (q2 : Nat)] 73)) := (BW.refl w2).alloc
   have Q := Lib.hid (SQ_srcs w2 0 [p, q2] #[.int .u32 (p : Nat), .int .u32 (q2 : Nat)] rfl 2 rfl (by omega) (by omega))
   have hlt := Lib.hid P.out.lt
   have k1a := k1 _ w2.heap.size (by have := (S2.out.trans (BS.still [g])).size; have := hgp.out; omega) (W2.out.bw BS) Q.out (fun _ j hj => by simp [Value.ownBlock] at hj; have := hlt.out; have := hgq.out; omega)
   have S3 := Lib.hid (S2.out.trans (BS.still [g]))
   clear W2 k1 Q hlt S2
   replace BS := Lib.hid BS
   go_wp2_with fail
   refine Calls.mono k1a.out ?_
   rintro e w4 ⟨rfl, W4, T4⟩
   have hp3 : Hid (WrU w4 gp g (wordsB [s, 0] ++ firB (L.take (k + 1))) ∧ Still [g] w w4) := ⟨by rw [hfin.out]; exact W4, S3.out.trans T4⟩
   clear W4 T4 S3 k1a z0 z1 P BS
   dsimp only
   go_wp2_with fail
   go_roundg (nf - (k + 1))
   case measure => omega
   case rel => exact ⟨k + 1, rfl, by omega, by push_cast; rfl, hp3⟩
  ·obtain rfl : k = nf := by omega
   have d : decide ((k : Int) < (k : Int)) = false := by simp
   have hp3 := hp.out
   rw [hfull.out] at hp3
   replace hp3 := Lib.hid hp3
   clear hp
   go_wp2_with fail
   go_ret2
   exact ⟨rfl, by rw [hgp.out]; exact hp3.out.1, hp3.out.2⟩
end Go.Proofs.Ytcempndfbckcaaa

namespace Go.Proofs.Ytcempndfbckcaaa
open Go.RowKit
def manN (x : Nat) : Nat := x / 2 ^ expN x
theorem manN_lt (x : Nat) : manN x < 262144 := by
 unfold manN expN
 refine Nat.div_lt_of_lt_mul ?_
 have h := (bitLen_spec x).1
 have h2 : 2 ^ bitLen x ≤ 2 ^ (bitLen x - 18) * 262144 := by
  rw [show 262144 = 2 ^ 18 from rfl, ← Nat.pow_add]
  exact Nat.pow_le_pow_right (by decide) (by omega)
 omega
theorem rate_or (p m : Nat) (hp : p ≤ 46) (hm : m < 262144) : bits .or .u64 ((p : Int) * 262144) (m : Int) = ((p * 262144 + m : Nat) : Int) := by
 have e : (p : Int) * 262144 = ((p * 262144 : Nat) : Int) := by omega
 rw [e, u64_or_nat (p * 262144) m (by omega) (by omega), show p * 262144 = 2 ^ 18 * p by omega, ← Nat.two_pow_add_eq_or_of_lt hm]
def rembB (s rt : Nat) (L : List Nat) : List Nat := (((wordsB [s, 0] ++ [82, 69, 77, 66]) ++ putB 1 L.length) ++ putB 3 (expN rt * 262144 + manN rt)) ++ wordsB L
set_option maxRecDepth 100000 in
set_option maxHeartbeats 8000000 in
theorem wremb_ok (g s m t st pk oc : Nat) (ar an as_ al af : Option Addr) (nr nn ns nl nf cr cn cs cl_ cf rt : Nat) (hs : s < 4294967296) (hrt : rt < 18446744073709551616) (L : List Nat) (hL : ∀ x ∈ L, x < 4294967296) (hn : ns ≤ 100) (w : World) (h : HpB w g (.cells #[.slice none 0 0] 152)) (hv : SQ ES w 0 (.slice as_ ns cs) ns L) (hvo : 0 < ns → ∀ k, (Value.slice as_ ns cs).ownBlock = some k → k ≠ g) :
  Calls Try.prog 117 #[.pointer (some ⟨g, 0, none⟩), .agg #[.int .i64 4, .int .u32 (s : Nat), .int .u32 (m : Nat), .int .u64 (t : Nat), .int .u32 (st : Nat), .int .u32 (pk : Nat), .int .u32 (oc : Nat), .slice ar nr cr, .slice an nn cn, .slice as_ ns cs, .slice al nl cl_, .slice af nf cf, .int .u64 (rt : Nat)]] w fun e w' => e = .returned (.tuple #[]) ∧ WrU w' w.heap.size g (rembB s rt L) ∧ Still [g] w w' := by
 have hxl : L.length = ns := hv.1
 have cR := fun wz => Lib.hid (rate_ok rt hrt wz)
 have hml := manN_lt rt
 have hpl := expN_le rt hrt
 have hor := rate_or (expN rt) (manN rt) hpl hml
 have hB : rembB s rt L = (((wordsB [s, 0] ++ [82, 69, 77, 66]) ++ putB 1 ns) ++ putB 3 (expN rt * 262144 + manN rt)) ++ wordsB L := by rw [← hxl]; rfl
 rw [show rt / 2 ^ expN rt = manN rt from rfl] at cR
 generalize manN rt = mn at *
 generalize expN rt = ex at *
 have hX : ex * 262144 + mn ≤ 12320767 := by omega
 generalize ex * 262144 + mn = X at *
 have c1 := fun wz gz (hz : w.heap.size ≤ wz.heap.size) (h : WrU wz w.heap.size g []) hq ho => Lib.hid (wwordsU_ok w.heap.size g [] (.slice (some ⟨gz, 0, none⟩) 2 2) 2 [s, 0] 0 (by simp; omega) (by omega) (by simp) wz hz h hq ho)
 simp only [List.nil_append] at c1
 have c2 := fun wz (hz : w.heap.size ≤ wz.heap.size) (h : WrU wz w.heap.size g (wordsB [s, 0] ++ [82, 69, 77, 66])) => Lib.hid (wnumU_ok w.heap.size g (wordsB [s, 0] ++ [82, 69, 77, 66]) 1 ns 1 (by decide) (by decide) rfl (by omega) (by simp [wordsB_len]) wz hz h)
 have c3 := fun wz (hz : w.heap.size ≤ wz.heap.size) (h : WrU wz w.heap.size g ((wordsB [s, 0] ++ [82, 69, 77, 66]) ++ putB 1 ns)) => Lib.hid (wnumU_ok w.heap.size g ((wordsB [s, 0] ++ [82, 69, 77, 66]) ++ putB 1 ns) 3 X 3 (by decide) (by decide) rfl (by omega) (by simp [wordsB_len, putB_len]) wz hz h)
 have c4 := fun wz (hz : w.heap.size ≤ wz.heap.size) (h : WrU wz w.heap.size g (((wordsB [s, 0] ++ [82, 69, 77, 66]) ++ putB 1 ns) ++ putB 3 X)) hq => Lib.hid (wwordsU_ok w.heap.size g (((wordsB [s, 0] ++ [82, 69, 77, 66]) ++ putB 1 ns) ++ putB 3 X) (.slice as_ ns cs) ns L 0 hL (by omega) (by simp [wordsB_len, putB_len]) wz hz h hq hvo)
 have BA : BW w (w.alloc (.cells #[.int .i64 4, .int .u32 (s : Nat), .int .u32 (m : Nat), .int .u64 (t : Nat), .int .u32 (st : Nat), .int .u32 (pk : Nat), .int .u32 (oc : Nat), .slice ar nr cr, .slice an nn cn, .slice as_ ns cs, .slice al nl cl_, .slice af nf cf, .int .u64 (rt : Nat)] 111)) := (BW.refl w).alloc
 have P := Lib.hid (HpB.new w (.cells #[.int .i64 4, .int .u32 (s : Nat), .int .u32 (m : Nat), .int .u64 (t : Nat), .int .u32 (st : Nat), .int .u32 (pk : Nat), .int .u32 (oc : Nat), .slice ar nr cr, .slice an nn cn, .slice as_ ns cs, .slice al nl cl_, .slice af nf cf, .int .u64 (rt : Nat)] 111))
 have W0 : Hid (WrU (w.alloc (.cells #[.int .i64 4, .int .u32 (s : Nat), .int .u32 (m : Nat), .int .u64 (t : Nat), .int .u32 (st : Nat), .int .u32 (pk : Nat), .int .u32 (oc : Nat), .slice ar nr cr, .slice an nn cn, .slice as_ ns cs, .slice al nl cl_, .slice af nf cf, .int .u64 (rt : Nat)] 111)) w.heap.size g []) := ⟨none, 0, h.bw BA, OB.nil _ _ _⟩
 have S0 := Lib.hid (BA.still [g])
 have V0 := Lib.hid (hv.bw BA)
 have hvv := Lib.hid hvo
 have hg := Lib.hid h.lt
 have hvl : Hid (∀ k, (Value.slice as_ ns cs).ownBlock = some k → 0 < ns → k < w.heap.size) := fun k hk h0 => hv.own h0 k hk
 have hn2 : (ns : Int) ≤ 100 := by omega
 have hex : (ex : Int) ≤ 46 := by omega
 have hX2 : (X : Int) ≤ 12320767 := by omega
 clear h hv hvo hL hrt hs hX hml hpl hxl
 replace BA := Lib.hid BA
 replace hB := Lib.hid hB
 go_enter Try.func117, Try.ntmps117
 go_upto_region 1 with (fail)
 generalize (w.alloc _) = w0 at *
 generalize hgp : w.heap.size = gp at *
 have hpg : Hid (gp ≠ g ∧ g < gp) := by have := hg.out; show _ ∧ _; omega
 clear BA
 replace hgp := Lib.hid hgp
 have z12 := (hp_cell P.out 12).trans (show _ = some (.int .u64 (rt : Nat)) from rfl)
 go_wp2_with fail
 refine Calls.mono (cR w0).out ?_
 rintro e w' ⟨rfl, rfl⟩
 dsimp only
 clear cR z12
 have z1 := (hp_cell P.out 1).trans (show _ = some (.int .u32 (s : Nat)) from rfl)
 have BS : BW w0 (w0.alloc (.cells #[.int .u32 (s : Nat), .int .u32 0] 73)) := (BW.refl w0).alloc
 have Q := Lib.hid (SQ_srcs w0 0 [s, 0] #[.int .u32 (s : Nat), .int .u32 0] rfl 2 rfl (by omega) (by omega))
 have hlt := Lib.hid P.out.lt
 have cc := c1 _ w0.heap.size (by have := BS.size; have := hlt.out; omega) (W0.out.bw BS) Q.out (fun _ j hj => by simp [Value.ownBlock] at hj; have := hlt.out; have := hpg.out; omega)
 replace P := Lib.hid (P.out.bw BS)
 replace S0 := Lib.hid (S0.out.trans (BS.still [g]))
 replace V0 := Lib.hid (V0.out.bw BS)
 clear Q hlt c1 W0
 replace BS := Lib.hid BS
 go_wp2_with fail
 refine Calls.mono cc.out ?_
 rintro e w1 ⟨rfl, W1, T⟩
 replace P := Lib.hid (P.out.st T (by have := hpg.out.1; simpa using this))
 replace S0 := Lib.hid (S0.out.trans T)
 replace V0 := Lib.hid (V0.out.st0 T (fun _ _ => trivial) (fun h0 j hj hm => hvv.out h0 j hj (by simpa using hm)))
 clear T cc BS z1
 dsimp only
 obtain ⟨s1, k1, H1, O1⟩ := W1
 have hl1 : (wordsB [s, 0]).length = 8 := by simp [wordsB_len]
 rw [hl1] at H1 O1
 have z0 := (hp_cell H1 0).trans (show _ = some (.slice s1 8 k1) from rfl)
 have hz1 := Lib.hid S0.out.size
 rw [hgp.out] at hz1
 have hng : Hid (∀ k ∈ (Value.slice s1 8 k1).ownBlock.toList, gp ≤ k ∧ k ≠ g) := fun k hk => ⟨O1.ge' k (by simpa using hk), fun e => O1.2.2.ne H1 (by decide) k (by simpa using hk) e⟩
 replace H1 := Lib.hid H1
 replace O1 := Lib.hid O1
 go_upto_region 3 with (fail)
 go_upto_region 4 with (at_builtin; go_must (refine wpList_apOS rfl _ _ rfl gp _ 8 _ rfl O1.out [82, 69, 77, 66] (by unfold ByL; decide) rfl 4 rfl (by omega) hz1.out ?_; intro s8 c8 w8 hc8 hm8 O8 T8 hb G8; unfold maxLen at hm8; replace T8 : Still (Value.slice s1 8 k1).ownBlock.toList _ w8 := T8; have H8 := Lib.hid (H1.out.st T8 (fun hm => (hng.out _ hm).2 rfl)); have P8 := Lib.hid (P.out.st T8 (fun hm => O1.out.2.2.ne P.out (by decide) gp (by simpa using hm) rfl)); have S8 := Lib.hid (S0.out.fresh T8 (fun k hk => by have := (hng.out k hk).1; have := hgp.out; omega)); have V8 := Lib.hid (V0.out.st0 T8 (fun _ _ => trivial) (fun h0 j hj hm => by have := (hng.out j hm).1; have := hvl.out j hj h0; have := hgp.out; omega)); replace O8 := Lib.hid O8; clear T8 hb G8 O1 H1 P S0 V0 hng z0; have z0 := (hp_cell H8.out 0).trans (show _ = some (.slice s1 8 k1) from rfl); have f0 := hp_frz H8.out 0))
 have H9 := Lib.hid (hp_set H8.out 0 (.slice s8 12 c8))
 have T9 := stillR w8 g 0 (.slice s8 12 c8)
 have O9 := Lib.hid (O8.out.still T9 (fun k hk hm => O8.out.2.2.ne H8.out (by decide) k hk (by simpa using hm)))
 have P9 := Lib.hid (P8.out.st T9 (by have := hpg.out.1; simpa using this))
 have S9 := Lib.hid (S8.out.trans T9)
 have V9 := Lib.hid (V8.out.st0 T9 (fun _ _ => trivial) (fun h0 j hj hm => hvv.out h0 j hj (by simpa using hm)))
 clear T9 H8 O8 P8 S8 V8
 clear z0 f0
 generalize (w8.setCell _ _) = w9 at *
 have W9 : Hid (WrU w9 gp g (wordsB [s, 0] ++ [82, 69, 77, 66])) := ⟨s8, c8, H9.out, O9.out⟩
 clear H9 O9
 have z9 := (hp_cell P9.out 9).trans (show _ = some (.slice as_ ns cs) from rfl)
 have c2a := c2 w9 (by have := S9.out.size; have := hgp.out; omega) W9.out
 clear c2 W9
 go_wp2_with fail
 refine Calls.mono c2a.out ?_
 rintro e wa ⟨rfl, Wa, T⟩
 have Pa := Lib.hid (P9.out.st T (by have := hpg.out.1; simpa using this))
 have Sa := Lib.hid (S9.out.trans T)
 have Va := Lib.hid (V9.out.st0 T (fun _ _ => trivial) (fun h0 j hj hm => hvv.out h0 j hj (by simpa using hm)))
 have c3a := c3 wa (by have := Sa.out.size; have := hgp.out; omega) Wa
 clear T c2a z9 P9 S9 V9 Wa c3
 dsimp only
 go_wp2_with fail
 refine Calls.mono c3a.out ?_
 rintro e wb ⟨rfl, Wb, T⟩
 have Pb := Lib.hid (Pa.out.st T (by have := hpg.out.1; simpa using this))
 have Sb := Lib.hid (Sa.out.trans T)
 have Vb := Lib.hid (Va.out.st0 T (fun _ _ => trivial) (fun h0 j hj hm => hvv.out h0 j hj (by simpa using hm)))
 have c4a := c4 wb (by have := Sb.out.size; have := hgp.out; omega) Wb Vb.out
 clear T c3a Pa Sa Va Wb Vb c4
 dsimp only
 have z9 := (hp_cell Pb.out 9).trans (show _ = some (.slice as_ ns cs) from rfl)
 go_wp2_with fail
 refine Calls.mono c4a.out ?_
 rintro e wc ⟨rfl, Wc, T⟩
 have Sc := Lib.hid (Sb.out.trans T)
 have Wf := Lib.hid Wc
 clear T c4a Pb Sb Wc z9
 dsimp only
 go_wp2_with fail
 go_end0
 exact ⟨rfl, by rw [hB.out, hgp.out]; exact Wf.out, Sc.out⟩
end Go.Proofs.Ytcempndfbckcaaa

namespace Go.Proofs.Ytcempndfbckcaaa
open Go.RowKit
set_option maxRecDepth 100000 in
set_option maxHeartbeats 8000000 in
theorem body_remb (g s m t st pk oc : Nat) (ar an as_ al af : Option Addr) (nr nn ns nl nf cr cn cs cl_ cf rt : Nat) (hs : s < 4294967296) (hrt : rt < 18446744073709551616) (L : List Nat) (hL : ∀ x ∈ L, x < 4294967296) (hn : ns ≤ 100) (w : World) (h : HpB w g (.cells #[.slice none 0 0] 152)) (hv : SQ ES w 0 (.slice as_ ns cs) ns L) (hvo : 0 < ns → ∀ k, (Value.slice as_ ns cs).ownBlock = some k → k ≠ g) :
  Calls Try.prog 85 #[.pointer (some ⟨g, 0, none⟩), .agg #[.int .i64 4, .int .u32 (s : Nat), .int .u32 (m : Nat), .int .u64 (t : Nat), .int .u32 (st : Nat), .int .u32 (pk : Nat), .int .u32 (oc : Nat), .slice ar nr cr, .slice an nn cn, .slice as_ ns cs, .slice al nl cl_, .slice af nf cf, .int .u64 (rt : Nat)]] w fun e w' => e = .returned (.tuple #[.int .i64 206, .int .i64 15]) ∧ WrU w' w.heap.size g (rembB s rt L) ∧ Still [g] w w' := by
 have BA : BW w (w.alloc (.cells #[.int .i64 4, .int .u32 (s : Nat), .int .u32 (m : Nat), .int .u64 (t : Nat), .int .u32 (st : Nat), .int .u32 (pk : Nat), .int .u32 (oc : Nat), .slice ar nr cr, .slice an nn cn, .slice as_ ns cs, .slice al nl cl_, .slice af nf cf, .int .u64 (rt : Nat)] 111)) := (BW.refl w).alloc
 have P := Lib.hid (HpB.new w (.cells #[.int .i64 4, .int .u32 (s : Nat), .int .u32 (m : Nat), .int .u64 (t : Nat), .int .u32 (st : Nat), .int .u32 (pk : Nat), .int .u32 (oc : Nat), .slice ar nr cr, .slice an nn cn, .slice as_ ns cs, .slice al nl cl_, .slice af nf cf, .int .u64 (rt : Nat)] 111))
 have c0 := Lib.hid (wremb_ok g s m t st pk oc ar an as_ al af nr nn ns nl nf cr cn cs cl_ cf rt hs hrt L hL hn _ (h.bw BA) (hv.bw BA) hvo)
 have S0 := Lib.hid (BA.still [g])
 clear h hv hvo hL hrt hs
 replace BA := Lib.hid BA
 go_enter Try.func85, Try.ntmps85
 go_upto_region 1 with (fail)
 generalize (w.alloc _) = w0 at *
 generalize hgp : w.heap.size = gp at *
 clear BA
 replace hgp := Lib.hid hgp
 have z0 := hp_cell (P.out) 0
 have z1 := hp_cell (P.out) 1
 have z2 := hp_cell (P.out) 2
 have z3 := hp_cell (P.out) 3
 have z4 := hp_cell (P.out) 4
 have z5 := hp_cell (P.out) 5
 have z6 := hp_cell (P.out) 6
 have z7 := hp_cell (P.out) 7
 have z8 := hp_cell (P.out) 8
 have z9 := hp_cell (P.out) 9
 have z10 := hp_cell (P.out) 10
 have z11 := hp_cell (P.out) 11
 have z12 := hp_cell (P.out) 12
 simp only [List.getElem?_toArray, List.getElem?_cons_zero, List.getElem?_cons_succ] at z0 z1 z2 z3 z4 z5 z6 z7 z8 z9 z10 z11 z12
 go_wp2_with fail
 refine Calls.mono c0.out ?_
 rintro e w1 ⟨rfl, W1, T⟩
 replace W1 := W1.up (bs' := gp) (by have := S0.out.size; have := hgp.out; omega)
 replace S0 := Lib.hid (S0.out.trans T)
 replace W1 := Lib.hid W1
 clear z0 z1 z2 z3 z4 z5 z6 z7 z8 z9 z10 z11 z12
 clear T c0 P
 dsimp only
 go_wp2_with fail
 go_ret2
 exact ⟨rfl, by rw [hgp.out]; exact W1.out, S0.out⟩
structure CtlWf (c : Ctl) : Prop where
 k : -9223372036854775808 ≤ c.k ∧ c.k ≤ 9223372036854775807
 s : c.s < 4294967296
 m : c.m < 4294967296
 t : c.t < 18446744073709551616
 st : c.st < 4294967296
 pk : c.pk < 4294967296
 oc : c.oc < 4294967296
 rt : c.rt < 18446744073709551616
 reps : ∀ r ∈ c.reps, RepWf r
 nams : ∀ p ∈ c.nams, p.1 < 4294967296 ∧ ByL p.2
 srcs : ∀ x ∈ c.srcs, x < 4294967296
 loss : ∀ p ∈ c.loss, p.1 < 65536 ∧ p.2 < 65536
 firs : ∀ p ∈ c.firs, p.1 < 4294967296 ∧ p.2 < 256
structure CtlSm (c : Ctl) : Prop where
 reps : c.reps.length ≤ 100
 nams : c.nams.length ≤ 100
 srcs : c.srcs.length ≤ 100
 loss : c.loss.length ≤ 100
 firs : c.firs.length ≤ 100
 name : ∀ p ∈ c.nams, p.2.length ≤ 100
structure CtlR (w : World) (c : Ctl) (vr vn vs vl vf : Value) : Prop where
 r : SQ ER w 0 vr c.reps.length c.reps
 n : SQ EM w 0 vn c.nams.length c.nams
 s : SQ ES w 0 vs c.srcs.length c.srcs
 l : SQ EO w 0 vl c.loss.length c.loss
 f : SQ EF w 0 vf c.firs.length c.firs
theorem CtlR.bw {w w' : World} {c : Ctl} {vr vn vs vl vf : Value} (h : CtlR w c vr vn vs vl vf) (hb : BW w w') : CtlR w' c vr vn vs vl vf := ⟨h.r.bw hb, h.n.bw hb, h.s.bw hb, h.l.bw hb, h.f.bw hb⟩
structure OffB (g : Nat) (c : Ctl) (vr vn vs vl vf : Value) : Prop where
 r : 0 < c.reps.length → ∀ k, vr.ownBlock = some k → k ≠ g
 n : 0 < c.nams.length → ∀ k, vn.ownBlock = some k → k ≠ g
 s : 0 < c.srcs.length → ∀ k, vs.ownBlock = some k → k ≠ g
 l : 0 < c.loss.length → ∀ k, vl.ownBlock = some k → k ≠ g
 f : 0 < c.firs.length → ∀ k, vf.ownBlock = some k → k ≠ g
def hdrW (c : Ctl) : Nat × Nat :=
 if c.k = 200 then (200, c.reps.length) else if c.k = 201 then (201, c.reps.length) else if c.k = 202 then (202, c.nams.length) else if c.k = 203 then (203, c.srcs.length)
 else if c.k = 1 then (205, 1) else if c.k = 2 then (206, 1) else if c.k = 3 then (206, 4) else (206, 15)
def bodyW (c : Ctl) : List Nat :=
 if c.k = 200 then (((wordsB [c.s]) ++ putB 8 c.t) ++ wordsB [c.st, c.pk, c.oc]) ++ repsB c.reps else if c.k = 201 then (wordsB [c.s]) ++ repsB c.reps
 else if c.k = 202 then namsB c.nams else if c.k = 203 then wordsB c.srcs else if c.k = 1 then wordsB [c.s, c.m] ++ lossB c.loss else if c.k = 2 then wordsB [c.s, c.m]
 else if c.k = 3 then wordsB [c.s, 0] ++ firB c.firs else rembB c.s c.rt c.srcs
theorem isKind_cases {k : Int} (h : isKind k = true) : k = 200 ∨ k = 201 ∨ k = 202 ∨ k = 203 ∨ k = 1 ∨ k = 2 ∨ k = 3 ∨ k = 4 := of_decide_eq_true h
theorem body_ok (c : Ctl) (hk : isKind c.k = true) (wf : CtlWf c) (sm : CtlSm c) (vr vn vs vl vf : Value) (g : Nat) (w : World) (h : HpB w g (.cells #[.slice none 0 0] 152)) (hR : CtlR w c vr vn vs vl vf) (hO : OffB g c vr vn vs vl vf) :
  Calls Try.prog 85 #[.pointer (some ⟨g, 0, none⟩), .agg (ctlC c vr vn vs vl vf).toArray] w fun e w' => e = .returned (.tuple #[.int .i64 ((hdrW c).1 : Nat), .int .i64 ((hdrW c).2 : Nat)]) ∧ WrU w' w.heap.size g (bodyW c) ∧ Still [g] w w' := by
 obtain ⟨k, s, m, t, st, pk, oc, reps, nams, srcs, loss, firs, rt⟩ := c
 obtain ⟨b1, b2, b3, b4, b5, b6, b7, b8, b9, b10, b11, b12, b13⟩ := wf
 obtain ⟨q1, q2, q3, q4, q5, q6⟩ := sm
 obtain ⟨r1, r2, r3, r4, r5⟩ := hR
 obtain ⟨o1, o2, o3, o4, o5⟩ := hO
 obtain ⟨ar, cr, rfl, -, -⟩ := r1.len
 obtain ⟨an, cn, rfl, -, -⟩ := r2.len
 obtain ⟨as_, cs, rfl, -, -⟩ := r3.len
 obtain ⟨al, cl_, rfl, -, -⟩ := r4.len
 obtain ⟨af, cf, rfl, -, -⟩ := r5.len
 dsimp only at *
 rcases isKind_cases hk with rfl | rfl | rfl | rfl | rfl | rfl | rfl | rfl
 ·exact body_sr g s m t st pk oc ar an as_ al af _ _ _ _ _ cr cn cs cl_ cf rt b2 b4 b5 b6 b7 reps b9 q1 w h r1 o1
 ·exact body_rr g s m t st pk oc ar an as_ al af _ _ _ _ _ cr cn cs cl_ cf rt b2 reps b9 q1 w h r1 o1
 ·exact body_sdes g s m t st pk oc ar an as_ al af _ _ _ _ _ cr cn cs cl_ cf rt nams (fun p hp => ⟨(b10 p hp).1, (b10 p hp).2, q6 p hp⟩) q2 w h r2 o2
 ·exact body_bye g s m t st pk oc ar an as_ al af _ _ _ _ _ cr cn cs cl_ cf rt srcs b11 q3 w h r3 o3
 ·exact body_nack g s m t st pk oc ar an as_ al af _ _ _ _ _ cr cn cs cl_ cf rt b2 b3 loss b12 q4 w h r4 o4
 ·exact body_pli g s m t st pk oc ar an as_ al af _ _ _ _ _ cr cn cs cl_ cf rt b2 b3 w h
 ·exact body_fir g s m t st pk oc ar an as_ al af _ _ _ _ _ cr cn cs cl_ cf rt b2 b3 firs b13 q5 w h r5 o5
 ·exact body_remb g s m t st pk oc ar an as_ al af _ _ _ _ _ cr cn cs cl_ cf rt b2 b8 srcs b11 q3 w h r3 o3
end Go.Proofs.Ytcempndfbckcaaa
