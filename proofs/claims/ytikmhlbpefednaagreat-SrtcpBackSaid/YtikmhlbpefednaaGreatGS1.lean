/- Packets sealed, in plain words: headers, what is seen of bytes, windows, ciphered bytes and tags. Nothing of the program; no condition. srtp: headers; octets.Num where there are too few bytes. No condition but the sizes'. window: High, Fresh, Mark; seqs.Seq, Index where nothing was yet. No condition but the sizes'. srtp.Way: what it is in memory; tags; bytes turned. No condition but the sizes'. srtp.Way's turn: what is behind a header, ciphered. No condition but the sizes'. -/
import Derived.Test.YtikmhlbpefednaaGreatGRa
import Derived.Test.YtikmhlbpefednaaGreatGMc
import Derived.Test.YtikmhlbpefednaaGreatGTa
import Derived.Test.YtikmhlbpefednaaGreatAesI
import Derived.Test.YtikmhlbpefednaaGreatGW6
import Derived.Test.YtikmhlbpefednaaGreatGEl
import Derived.Test.YtikmhlbpefednaaGreatGW7
import Derived.Test.YtikmhlbpefednaaGreatGTb
import Derived.Test.YtikmhlbpefednaaGreatGAr
namespace Go.Proofs.YtikmhlbpefednaaGreat
theorem nm_take (b : List Nat) (h a n : Nat) (ha : a + n ≤ h) : nm (b.take h) a n = nm b a n := by
 unfold nm
 rw [List.drop_take, List.take_take, Nat.min_eq_left (by omega)]
def wFresh (nx bits : Nat) (i : Int) : Bool := decide (0 ≤ i) && (decide ((nx : Int) - 1 - i < 0) || (decide ((nx : Int) - 1 - i < 64) && !bits.testBit ((nx : Int) - 1 - i).toNat))
def wMark (nx bits : Nat) (i : Nat) : Nat × Nat := if i < nx then (nx, bits ||| 2 ^ (nx - 1 - i)) else (i + 1, (bits * 2 ^ (i + 1 - nx)) % 18446744073709551616 ||| 1)
theorem wMark_new (i : Nat) : wMark 0 0 i = (i + 1, 1) := by simp [wMark]
end Go.Proofs.YtikmhlbpefednaaGreat

namespace Go.Proofs.YtikmhlbpefednaaGreat
open Go.RowKit
end Go.Proofs.YtikmhlbpefednaaGreat

namespace Go.Proofs.YtikmhlbpefednaaGreat
open Go.RowKit
def WinV (w : World) (p nx bs : Nat) : Prop := HpB w p (.cells #[.int .i64 (nx : Nat), .int .u64 (bs : Nat)] 93)
theorem bit64 (b q : Nat) (hb : b < 18446744073709551616) : (bits .and .u64 ((b : Int) / 2 ^ q) 1 == 0) = !b.testBit q := by
 have e : ((b : Int) / 2 ^ q) = ((b / 2 ^ q : Nat) : Int) := by push_cast; rfl
 have hlt : b / 2 ^ q < 18446744073709551616 := Nat.lt_of_le_of_lt (Nat.div_le_self _ _) hb
 have e2 := u64_and_nat (b / 2 ^ q) 1 hlt (by decide)
 rw [nat_mask1] at e2
 rw [e, show (1 : Int) = ((1 : Nat) : Int) from rfl, e2, Nat.testBit_eq_decide_div_mod_eq]
 generalize b / 2 ^ q = x
 have : x % 2 = 0 ∨ x % 2 = 1 := by omega
 rcases this with h | h <;> rw [h] <;> rfl
set_option maxRecDepth 100000 in
set_option maxHeartbeats 8000000 in
theorem whigh_ok (p nx bs : Nat) (hn : nx ≤ 4611686018427387904) (w : World) (h : WinV w p nx bs) :
  Calls Tryz.prog 50 #[.pointer (some ⟨p, 0, none⟩)] w fun e w' => e = .returned (.int .i64 ((nx : Int) - 1)) ∧ w = w' := by
 have z0 := (hp_cell h 0).trans (show _ = some (.int .i64 (nx : Nat)) from rfl)
 clear h
 go_enter Tryz.func50, Tryz.ntmps50
 go_wp2_with fail
 go_ret
 exact ⟨rfl, rfl⟩
set_option maxRecDepth 100000 in
set_option maxHeartbeats 8000000 in
theorem wbelow_ok (p nx bs : Nat) (i : Int) (hn : nx ≤ 4611686018427387904) (hi : -2305843009213693952 ≤ i ∧ i ≤ 2305843009213693952) (w : World) (h : WinV w p nx bs) :
  Calls Tryz.prog 80 #[.pointer (some ⟨p, 0, none⟩), .int .i64 i] w fun e w' => e = .returned (.int .i64 ((nx : Int) - 1 - i)) ∧ w = w' := by
 have c := Lib.hid (whigh_ok p nx bs hn w h)
 clear h
 go_enter Tryz.func80, Tryz.ntmps80
 go_wp2_with fail
 refine Calls.mono c.out ?_
 rintro e w' ⟨rfl, rfl⟩
 dsimp only
 go_wp2_with fail
 go_ret
 exact ⟨rfl, rfl⟩
set_option maxRecDepth 100000 in
set_option maxHeartbeats 8000000 in
theorem wfresh_ok (p nx bs : Nat) (i : Int) (hn : nx ≤ 4611686018427387904) (hb : bs < 18446744073709551616) (hi : -2305843009213693952 ≤ i ∧ i ≤ 2305843009213693952) (w : World) (h : WinV w p nx bs) :
  Calls Tryz.prog 77 #[.pointer (some ⟨p, 0, none⟩), .int .i64 i] w fun e w' => e = .returned (.bool (wFresh nx bs i)) ∧ w = w' := by
 by_cases h0 : i < 0
 ·have hR : wFresh nx bs i = false := by unfold wFresh; rw [decide_eq_false (by omega)]; rfl
  have d0 : decide (i < 0) = true := by simpa using h0
  replace hR := Lib.hid hR
  replace h := Lib.hid h
  go_enter Tryz.func77, Tryz.ntmps77
  go_wp2_with fail
  go_ret
  exact ⟨by rw [hR.out]; rfl, rfl⟩
 have d0 : decide (i < 0) = false := by simpa using h0
 have c := Lib.hid (wbelow_ok p nx bs i hn hi w h)
 have z1 := (hp_cell h 1).trans (show _ = some (.int .u64 (bs : Nat)) from rfl)
 by_cases hk : (nx : Int) - 1 - i < 0
 ·have hR : wFresh nx bs i = true := by unfold wFresh; rw [decide_eq_true (by omega), decide_eq_true hk]; rfl
  generalize (nx : Int) - 1 - i = k at *
  have d1 : decide (k < 0) = true := by simpa using hk
  replace hR := Lib.hid hR
  replace h := Lib.hid h
  go_enter Tryz.func77, Tryz.ntmps77
  go_wp2_with fail
  refine Calls.mono c.out ?_
  rintro e w' ⟨rfl, rfl⟩
  dsimp only
  go_wp2_with fail
  go_ret
  exact ⟨by rw [hR.out]; rfl, rfl⟩
 by_cases h64 : (nx : Int) - 1 - i < 64
 ·obtain ⟨kk, hkk⟩ : ∃ kk : Nat, (nx : Int) - 1 - i = (kk : Nat) := ⟨((nx : Int) - 1 - i).toNat, by omega⟩
  have hR : wFresh nx bs i = !bs.testBit kk := by
   unfold wFresh
   rw [decide_eq_true (by omega), decide_eq_false hk, decide_eq_true h64, hkk]
   simp
  rw [hkk] at c
  have hk64 : kk < 64 := by omega
  have hbt := bit64 bs kk hb
  generalize bs.testBit kk = r at *
  have d1 : decide ((kk : Int) < 0) = false := by simp
  have d2 : decide ((kk : Int) < 64) = true := by simp; omega
  replace hR := Lib.hid hR
  replace h := Lib.hid h
  clear hkk h64 hk
  go_enter Tryz.func77, Tryz.ntmps77
  go_wp2_with fail
  refine Calls.mono c.out ?_
  rintro e w' ⟨rfl, rfl⟩
  dsimp only
  go_wp2_with fail
  go_ret
  exact ⟨by rw [hR.out]; rfl, rfl⟩
 ·have hR : wFresh nx bs i = false := by unfold wFresh; rw [decide_eq_true (by omega), decide_eq_false hk, decide_eq_false h64]; rfl
  generalize (nx : Int) - 1 - i = k at *
  have d1 : decide (k < 0) = false := by simpa using hk
  have d2 : decide (k < 64) = false := by simpa using h64
  replace hR := Lib.hid hR
  replace h := Lib.hid h
  go_enter Tryz.func77, Tryz.ntmps77
  go_wp2_with fail
  refine Calls.mono c.out ?_
  rintro e w' ⟨rfl, rfl⟩
  dsimp only
  go_wp2_with fail
  go_ret
  exact ⟨by rw [hR.out]; rfl, rfl⟩
end Go.Proofs.YtikmhlbpefednaaGreat

namespace Go.Proofs.YtikmhlbpefednaaGreat
open Go.RowKit
def winS (M : List (Nat × Nat × Nat)) : List (Value × Value) := M.map fun p => (.int .u32 (p.1 : Nat), .agg #[.int .i64 (p.2.1 : Nat), .int .u64 (p.2.2 : Nat)])
def wayC (K : List Nat) (lim : Int) (used gm : Nat) : Array Value := ivA .u8 K ++ #[.int .i64 lim, .int .i64 (used : Nat), .map (some gm)]
structure WayV (w : World) (g : Nat) (K : List Nat) (lim : Int) (used gm : Nat) (M : List (Nat × Nat × Nat)) : Prop where
 hp : HpB w g (.cells (wayC K lim used gm) 77)
 len : K.length = 50
 byt : ByL K
 mp : MapIn w gm (winS M)
theorem WayV.bw {w w' : World} {g : Nat} {K : List Nat} {lim : Int} {used gm : Nat} {M : List (Nat × Nat × Nat)} (h : WayV w g K lim used gm M) (hb : BW w w') : WayV w' g K lim used gm M := ⟨h.hp.bw hb, h.len, h.byt, h.mp.still (hb.still []) (by simp)⟩
theorem WayV.still {w w' : World} {g : Nat} {K : List Nat} {lim : Int} {used gm : Nat} {M : List (Nat × Nat × Nat)} (h : WayV w g K lim used gm M) {S : List Nat} (hs : Still S w w') (h1 : g ∉ S) (h2 : gm ∉ S) : WayV w' g K lim used gm M := ⟨h.hp.st hs h1, h.len, h.byt, h.mp.still hs h2⟩
theorem WayV.ne {w : World} {g : Nat} {K : List Nat} {lim : Int} {used gm : Nat} {M : List (Nat × Nat × Nat)} (h : WayV w g K lim used gm M) : g ≠ gm := by
 rintro rfl
 obtain ⟨es, c, hm, _⟩ := h.mp
 have := h.hp
 unfold HpB at this
 rw [hm] at this
 cases this
theorem wayC_get {K : List Nat} {lim : Int} {used gm : Nat} (hl : K.length = 50) (i : Nat) (hi : i < 50) : (wayC K lim used gm)[i]? = some (.int .u8 (K.getD i 0 : Nat)) := by
 unfold wayC
 rw [Array.getElem?_append_left (by rw [ivA_size]; omega)]
 exact ivA_get _ _ _ (by omega)
theorem wayC_at {K : List Nat} {lim : Int} {used gm : Nat} (hl : K.length = 50) (i : Nat) : (wayC K lim used gm)[50 + i]? = (#[.int .i64 lim, .int .i64 (used : Nat), .map (some gm)] : Array Value)[i]? := by
 unfold wayC
 rw [Array.getElem?_append_right (by rw [ivA_size]; omega), ivA_size, hl]
 congr 1
 omega
theorem WayV.lim {w : World} {g : Nat} {K : List Nat} {lim : Int} {used gm : Nat} {M : List (Nat × Nat × Nat)} (h : WayV w g K lim used gm M) : w.cell? ⟨g, 50, none⟩ = some (.int .i64 lim) := (hp_cell h.hp 50).trans (wayC_at h.len 0)
theorem WayV.used {w : World} {g : Nat} {K : List Nat} {lim : Int} {used gm : Nat} {M : List (Nat × Nat × Nat)} (h : WayV w g K lim used gm M) : w.cell? ⟨g, 51, none⟩ = some (.int .i64 (used : Nat)) := (hp_cell h.hp 51).trans (wayC_at h.len 1)
theorem WayV.map {w : World} {g : Nat} {K : List Nat} {lim : Int} {used gm : Nat} {M : List (Nat × Nat × Nat)} (h : WayV w g K lim used gm M) : w.cell? ⟨g, 52, none⟩ = some (.map (some gm)) := (hp_cell h.hp 52).trans (wayC_at h.len 2)
theorem WayV.range {w : World} {g : Nat} {K : List Nat} {lim : Int} {used gm : Nat} {M : List (Nat × Nat × Nat)} (h : WayV w g K lim used gm M) (off n : Nat) (hn : off + n ≤ 50) : w.rangeAt g off (bvs (mid K off n)) := fun j v hv => by
 have hl := mid_len K off n (by rw [h.len]; exact hn)
 have hj : j < n := by
  rcases Nat.lt_or_ge j n with h | h
  ·exact h
  ·rw [List.getElem?_eq_none (by rw [bvs_len, hl]; omega)] at hv; cases hv
 rw [(hp_cell h.hp (off + j)).trans (wayC_get h.len (off + j) (by omega))]
 rw [bvs_get _ _ (by rw [hl]; omega)] at hv
 rw [← hv]
 simp [mid, List.getD_eq_getElem?_getD, List.getElem?_take, hj]
theorem WayV.auth {w : World} {g : Nat} {K : List Nat} {lim : Int} {used gm : Nat} {M : List (Nat × Nat × Nat)} (h : WayV w g K lim used gm M) : SB w (.slice (some ⟨g, 16, none⟩) 20 20) 20 (mid K 16 20) := by
 have hl := mid_len K 16 20 (by rw [h.len]; omega)
 refine SB.mk' hl ((h.byt.drop _).take _) (Nat.le_refl _) (by decide) h.hp.lt fun j hj => ?_
 have := h.range 16 20 (by omega) j (.int .u8 ((mid K 16 20).getD j 0 : Nat)) (bvs_get _ _ (by rw [hl]; exact hj))
 exact this
theorem WayV.use {w : World} {g : Nat} {K : List Nat} {lim : Int} {used gm : Nat} {M : List (Nat × Nat × Nat)} (h : WayV w g K lim used gm M) : WayV (w.setCell ⟨g, 51, none⟩ (.int .i64 ((used + 1 : Nat) : Int))) g K lim (used + 1) gm M := by
 refine ⟨?_, h.len, h.byt, h.mp.still (still_sc w g 51 _) (by simpa using h.ne.symm)⟩
 have e : (wayC K lim used gm).setIfInBounds 51 (.int .i64 ((used + 1 : Nat) : Int)) = wayC K lim (used + 1) gm := by
  apply Array.ext'
  simp only [wayC, Array.toList_setIfInBounds, Array.toList_append]
  rw [List.set_append_right _ _ (by simp [ivA, h.len])]
  simp [ivA, h.len]
 have := hp_set h.hp 51 (.int .i64 ((used + 1 : Nat) : Int))
 rw [e] at this
 exact this
section
variable {ops : Array Oper} {rest : List Oper} {o : Oper} {a : Act} {w : World} {Q : Exit → Act → World → Prop} {T : TypeId} {n : Nat}
theorem ldW (hT : ArT T n) (hgd : o.guard = none) {x : Operand} (ho : o.op = .load T x) {g off : Nat} (hx : a.eval x = .pointer (some ⟨g, off, none⟩)) {l : List Nat} (H : w.rangeAt g off (bvs l)) (hl : l.length = n)
  (h : wpList Tryz.prog ops Q rest (a.put o.dst (.agg (ivA .u8 l))) w) : wpList Tryz.prog ops Q (o :: rest) a w :=
 have ⟨_, h1, _, h2⟩ := hT.hu
 wpList_load_mid hgd T x ho g off hx _ _ H h1 h2 (by rw [hT.hi, bvs_len, hl]) h
theorem qlW (hT : ArT T n) {C : World → Prop} {a1 : Act} {K : Act → Prop} {x : Operand} (ho : o.op = .load T x) {g off : Nat} (hx : a.eval x = .pointer (some ⟨g, off, none⟩)) {l : List Nat} (hl : l.length = n) (h : ∀ w, C w → w.rangeAt g off (bvs l)) (ha : a.put o.dst (.agg (ivA .u8 l)) = a1) (hK : K a1) : o.quiet Tryz.prog a C K := by
 have ⟨_, h1, _, h2⟩ := hT.hu
 refine ⟨.agg (ivA .u8 l), fun w hw => ?_, by rw [ha]; exact hK⟩
 unfold Oper.quietAt execOp
 have := run_loadVar_mid w g off T (bvs l) _ (h w hw) h1 h2 (by rw [hT.hi, bvs_len, hl])
 rw [bvs_ivA] at this
 simp only [ho, hx, Instr.loadAt, Instr.sureAddr, Sem.run_bind, Sem.run_pure, Result.andThen_ok, this, Oper.quietUpon, and_self]
end
end Go.Proofs.YtikmhlbpefednaaGreat

namespace Go.Proofs.YtikmhlbpefednaaGreat
open Go.RowKit
theorem qlCutL {C : World → Prop} {a a1 : Act} {o : Oper} {K : Act → Prop} {x y : Operand} (ho : o.op = .slice 35 x (some y) none none) {sa : Option Addr} {len cap lo : Nat} {v : Int} (hx : a.eval x = .slice sa len cap) (hy : a.eval y = .int .i64 v) (hv : v = (lo : Nat)) (hl : lo ≤ len) (ha : a.put o.dst (.slice (cutA sa lo cap 1) (len - lo) (cap - lo)) = a1) (hK : K a1) : o.quiet Tryz.prog a C K := by
 refine ⟨.slice (cutA sa lo cap 1) (len - lo) (cap - lo), fun w hw => ?_, by rw [ha]; exact hK⟩
 unfold Oper.quietAt execOp
 have := run_cut_l (P := Tryz.prog) Tryz.underlying35 info_u8 sa len cap lo v hv .i64 hl w
 simp only [ho, hx, hy, Option.map_some, Option.map_none, Instr.sliceAt, run_underlying Tryz.underlying35, Sem.run_bind, Sem.run_pure, Result.andThen_ok, this, Oper.quietUpon, and_self]
theorem qlCutH {C : World → Prop} {a a1 : Act} {o : Oper} {K : Act → Prop} {x y : Operand} (ho : o.op = .slice 35 x none (some y) none) {sa : Option Addr} {len cap hi : Nat} {v : Int} (hx : a.eval x = .slice sa len cap) (hy : a.eval y = .int .i64 v) (hv : v = (hi : Nat)) (hl : hi ≤ cap) (ha : a.put o.dst (.slice sa hi cap) = a1) (hK : K a1) : o.quiet Tryz.prog a C K := by
 refine ⟨.slice sa hi cap, fun w hw => ?_, by rw [ha]; exact hK⟩
 unfold Oper.quietAt execOp
 have := run_cut_h (P := Tryz.prog) Tryz.underlying35 info_u8 sa len cap hi v hv .i64 hl w
 simp only [ho, hx, hy, Option.map_some, Option.map_none, Instr.sliceAt, run_underlying Tryz.underlying35, Sem.run_bind, Sem.run_pure, Result.andThen_ok, this, Oper.quietUpon, and_self]
theorem SB.takeW {w : World} {a : Option Addr} {n cap : Nat} {l : List Nat} (h : SB w (.slice a n cap) n l) (k : Nat) (hk : k ≤ n) : SB w (.slice a k cap) k (l.take k) := by
 obtain ⟨sa, c, he, hc, hm⟩ := h.len
 cases he
 have h1 := h.cut 0 k cap (Nat.zero_le _) hk (by omega) (Nat.le_refl _)
 simpa [cutA_zero] using h1
theorem SB.dropW {w : World} {a : Option Addr} {n cap : Nat} {l : List Nat} (h : SB w (.slice a n cap) n l) (k : Nat) (hk : k ≤ n) : SB w (.slice (cutA a k cap 1) (n - k) (cap - k)) (n - k) (l.drop k) := by
 obtain ⟨sa, c, he, hc, hm⟩ := h.len
 cases he
 have h1 := h.cut k n cap hk (Nat.le_refl _) hc (Nat.le_refl _)
 rwa [List.take_of_length_le (by rw [List.length_drop, h.1]; exact Nat.le_refl _)] at h1
theorem firstN_len (salt : List Nat) (s x : Nat) : (firstN salt s x).length = 16 := xorAt_len _ _ _ _
theorem firstN_byt (salt : List Nat) (s x : Nat) (h : Byt salt) : Byt (firstN salt s x) := xorAt_byt _ _ _ _ (xorAt_byt _ _ _ _ (xorAt_byt _ _ _ _ (zeros_byt 16) h) (putB_byt' _ _)) (putB_byt' _ _)
end Go.Proofs.YtikmhlbpefednaaGreat
