/- The writer of an egress as plain data: Follow, Map, what Push does. No condition but the numbers' bounds. -/
import Derived.Test.YtojedpahaifjgaaEsC
import Derived.Test.YtojedpahaifjgaaGEn
import Derived.Laws.Closers25b
namespace Go.Proofs.Ytojedpahaifjgaa
open Go.RowKit
structure Wr where
 fol : Bool
 a0 : Int
 a1 : Int
 a2 : Int
 b0 : Int
 b1 : Int
 b2 : Int
 out : Bool
 l0 : Int
 l1 : Int
 l2 : Int
def Wr.zero : Wr := ⟨false, 0, 0, 0, 0, 0, 0, false, 0, 0, 0⟩
def egW (gc : Nat) (kf pf : Value) (src first : Int) (W : Wr) (gr gb : Nat) : Array Value :=
 egC gc kf pf src first W.fol W.a0 W.a1 W.a2 W.b0 W.b1 W.b2 W.out W.l0 W.l1 W.l2 gr gb
def Wr.follow (W : Wr) (first i s p : Int) : Wr :=
 if 0 ≤ i then { W with fol := true, a0 := i, a1 := s, a2 := p, b0 := if W.out = true then W.l0 + 1 else first, b1 := nxS W.out W.l1, b2 := nxP W.out W.l2 } else W
def Wr.map (W : Wr) (i s p : Int) : Option (Int × Int × Int) × Wr :=
 ((mapN W.fol W.a0 W.a1 W.a2 W.b0 W.b1 W.b2 W.out W.l0 W.l1 W.l2 i s p).1, { W with out := (mapN W.fol W.a0 W.a1 W.a2 W.b0 W.b1 W.b2 W.out W.l0 W.l1 W.l2 i s p).2.1, l0 := (mapN W.fol W.a0 W.a1 W.a2 W.b0 W.b1 W.b2 W.out W.l0 W.l1 W.l2 i s p).2.2.1, l1 := (mapN W.fol W.a0 W.a1 W.a2 W.b0 W.b1 W.b2 W.out W.l0 W.l1 W.l2 i s p).2.2.2.1, l2 := (mapN W.fol W.a0 W.a1 W.a2 W.b0 W.b1 W.b2 W.out W.l0 W.l1 W.l2 i s p).2.2.2.2 })
structure Wr.Ok (W : Wr) (first : Int) : Prop where
 a : W.fol = true → 0 ≤ W.a0
 b : 0 ≤ W.b0 ∧ W.b0 ≤ 576460752303423488
 l : 0 ≤ W.l0 ∧ W.l0 ≤ 576460752303423488
 o : W.out = false → W.l0 = 0
 f : 0 ≤ first ∧ first ≤ 576460752303423488
structure Wr.Ok' (W : Wr) (first : Int) : Prop where
 a : W.fol = true → 0 ≤ W.a0
 b : 0 ≤ W.b0 ∧ W.b0 ≤ 1152921504606846976
 l : 0 ≤ W.l0 ∧ W.l0 ≤ 576460752303423488
 o : W.out = false → W.l0 = 0
 f : 0 ≤ first ∧ first ≤ 576460752303423488
theorem Wr.Ok.up {W : Wr} {first : Int} (h : W.Ok first) : W.Ok' first := ⟨h.a, ⟨h.b.1, by have := h.b.2; omega⟩, h.l, h.o, h.f⟩
theorem Wr.Ok.follow {W : Wr} {first : Int} (h : W.Ok first) (i s p : Int) : (W.follow first i s p).Ok' first := by
 unfold Wr.follow
 have h1 := h.l
 have h2 := h.f
 split
 ·refine ⟨fun _ => ‹_›, ?_, h1, h.o, h2⟩
  show 0 ≤ (if W.out = true then W.l0 + 1 else first) ∧ (if W.out = true then W.l0 + 1 else first) ≤ _
  split <;> omega
 ·exact h.up
theorem followW (g gc gr gb : Nat) (kf pf : Value) (src first : Int) (W : Wr) (i s p : Int) (hW : W.Ok first) (w : World) (h : HpB w g (.cells (egW gc kf pf src first W gr gb) 57)) :
  Calls Try.prog 39 #[.pointer (some ⟨g, 4, none⟩), .agg #[.int .i64 i, .int .u32 s, .int .u16 p]] w fun e w' => (∃ er : Int, e = .returned (.int .i64 er)) ∧ HpB w' g (.cells (egW gc kf pf src first (W.follow first i s p) gr gb) 57) ∧ Still [g] w w' := by
 have h1 := hW.l
 unfold Wr.follow
 by_cases hi : 0 ≤ i
 ·rw [if_pos hi]
  exact (wfollow_x g gc gr gb kf pf src first W.fol W.a0 W.a1 W.a2 W.b0 W.b1 W.b2 W.out W.l0 W.l1 W.l2 i s p hi (by omega) w h).mono fun _ _ ⟨k1, k2, k3⟩ => ⟨⟨_, k1⟩, k2, k3⟩
 ·rw [if_neg hi]
  exact (wfollow_neg g i s p (by omega) w).mono fun _ _ ⟨k1, k2⟩ => ⟨⟨_, k1⟩, h.bw k2, k2.still _⟩
theorem mapW (g gc gr gb : Nat) (kf pf : Value) (src first : Int) (W : Wr) (i s p : Int) (hi : i ≤ 1152921504606846976) (hW : W.Ok' first) (w : World) (h : HpB w g (.cells (egW gc kf pf src first W gr gb) 57)) (M : Option (Int × Int × Int) × Wr) (hM : W.map i s p = M) :
  Calls Try.prog 40 #[.pointer (some ⟨g, 4, none⟩), .agg #[.int .i64 i, .int .u32 s, .int .u16 p]] w fun e w' => ∃ n0 n1 n2 er : Int, e = .returned (.tuple #[.agg #[.int .i64 n0, .int .u32 n1, .int .u16 n2], .int .i64 er]) ∧ MapR M.1 n0 n1 n2 er ∧ HpB w' g (.cells (egW gc kf pf src first M.2 gr gb) 57) ∧ Still [g] w w' := by
 subst hM
 exact wmap_any g gc gr gb kf pf src first W.fol W.a0 W.a1 W.a2 W.b0 W.b1 W.b2 W.out W.l0 W.l1 W.l2 i s p hi hW.a hW.b hW.o w h _ rfl
theorem map_pic {W : Wr} {i s p a b c : Int} {M : Option (Int × Int × Int) × Wr} (hM : W.map i s p = M) (h : M.1 = some (a, b, c)) : 0 ≤ c ∧ c ≤ 65535 := by
 subst hM
 unfold Wr.map mapN at h
 split at h
 ·cases h
 ·have hc : c = mpP W.b2 p W.a2 := by
   split at h <;> (simp only [Option.some.injEq, Prod.mk.injEq] at h; exact h.2.2.symm)
  rw [hc]
  unfold mpP
  exact ⟨bits_lo_u16 .., bits_hi_u16 ..⟩
def pushN (many wanted goes layer : Int) (key : Bool) (first : Int) (W : Wr) (i s p : Int) : Option (Int × Int × Int) × Bool × Int × Wr :=
 if (takeN many wanted goes layer key).1 = false then (none, false, (takeN many wanted goes layer key).2.2, W)
 else (((if (takeN many wanted goes layer key).2.1 = true then W.follow first i s p else W).map i s p).1, (takeN many wanted goes layer key).2.1, (takeN many wanted goes layer key).2.2, ((if (takeN many wanted goes layer key).2.1 = true then W.follow first i s p else W).map i s p).2)
theorem pushN_no {many wanted goes layer : Int} {key : Bool} {first : Int} {W : Wr} {i s p : Int} {tu : Bool} {gl : Int} (h : takeN many wanted goes layer key = (false, tu, gl)) : pushN many wanted goes layer key first W i s p = (none, false, gl, W) := by
 unfold pushN; rw [h]; rfl
theorem pushN_yes {many wanted goes layer : Int} {key : Bool} {first : Int} {W : Wr} {i s p : Int} {tu : Bool} {gl : Int} (h : takeN many wanted goes layer key = (true, tu, gl)) : pushN many wanted goes layer key first W i s p = (((if tu = true then W.follow first i s p else W).map i s p).1, tu, gl, ((if tu = true then W.follow first i s p else W).map i s p).2) := by
 unfold pushN; rw [h]; exact if_neg (fun e => by cases e)
def arC (pl i : Int) (mk : Bool) (ty sq st so : Int) (oth : Value) (xb : Bool) (pf : Int) (ex pay : Value) (pd : Int) : Array Value :=
 #[.int .i64 pl, .int .i64 i, .bool mk, .int .u8 ty, .int .u16 sq, .int .u32 st, .int .u32 so, oth, .bool xb, .int .u16 pf, ex, pay, .int .u8 pd]
def snC (i : Int) (mk : Bool) (ty sq st so : Int) (oth : Value) (xb : Bool) (pf : Int) (ex pay : Value) (pd : Int) (tu : Bool) : Array Value :=
 #[.int .i64 i, .bool mk, .int .u8 ty, .int .u16 sq, .int .u32 st, .int .u32 so, oth, .bool xb, .int .u16 pf, ex, pay, .int .u8 pd, .bool tu]
set_option maxRecDepth 100000 in
set_option maxHeartbeats 8000000 in
theorem seq_any (i : Int) (w : World) : Calls Try.prog 41 #[.int .i64 i] w fun e w' => e = .returned (.int .u16 (IntKind.u16.wrap i)) ∧ w' = w := by
 go_enter Try.func41, Try.ntmps41
 go_wp2_with fail
 go_ret
 exact ⟨rfl, rfl⟩
set_option maxRecDepth 100000 in
set_option maxHeartbeats 8000000 in
theorem keyP_any (v : Value) (w : World) : Calls Try.prog 69 #[v] w fun e w' => e = .returned (.bool true) ∧ w' = w := by
 go_enter Try.func69, Try.ntmps69
 go_wp2_with fail
 go_ret
 exact ⟨rfl, rfl⟩
set_option maxRecDepth 100000 in
set_option maxHeartbeats 8000000 in
theorem picP_any (v : Value) (w : World) : Calls Try.prog 68 #[v] w fun e w' => e = .returned (.tuple #[.int .u16 0, .bool false]) ∧ w' = w := by
 go_enter Try.func68, Try.ntmps68
 go_wp2_with fail
 go_ret2
 exact ⟨rfl, rfl⟩
end Go.Proofs.Ytojedpahaifjgaa
