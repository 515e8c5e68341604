/- An egress: codecs, New. No condition but the numbers' bounds. An egress of plain media: New. No condition but the numbers' bounds. -/
import Derived.Test.YtojedpahaifjgaaGEm
import Derived.Test.YtojedpahaifjgaaGEc
import Derived.Test.YtojedpahaifjgaaBk0
import Derived.Laws.EntriesVeiled
namespace Go.Proofs.Ytojedpahaifjgaa
open Go.RowKit
theorem still_st6 (w : World) (z : Nat) (v0 v1 v2 v3 v4 v5 : Value) : Still [z] w ((((((w.setCell ⟨z, 0, none⟩ v0).setCell ⟨z, 1, none⟩ v1).setCell ⟨z, 2, none⟩ v2).setCell ⟨z, 3, none⟩ v3).setCell ⟨z, 4, none⟩ v4).setCell ⟨z, 5, none⟩ v5) := ((((((still_sc w z 0 v0).trans (still_sc _ z 1 v1)).trans (still_sc _ z 2 v2)).trans (still_sc _ z 3 v3)).trans (still_sc _ z 4 v4)).trans (still_sc _ z 5 v5))
theorem st6_arr (c : Array Value) (hc : c.size = 6) (v0 v1 v2 v3 v4 v5 : Value) : ((((((c.setIfInBounds 0 v0).setIfInBounds 1 v1).setIfInBounds 2 v2).setIfInBounds 3 v3).setIfInBounds 4 v4).setIfInBounds 5 v5) = #[v0, v1, v2, v3, v4, v5] := by
 obtain ⟨l⟩ := c
 match l, hc with
 | [_, _, _, _, _, _], _ => simp only [List.setIfInBounds_toArray, List.set_cons_zero, List.set_cons_succ]
theorem HpB.st6 {w : World} {z : Nat} {c : Array Value} {T : TypeId} (h : HpB w z (.cells c T)) (hc : c.size = 6) (v0 v1 v2 v3 v4 v5 : Value) : HpB ((((((w.setCell ⟨z, 0, none⟩ v0).setCell ⟨z, 1, none⟩ v1).setCell ⟨z, 2, none⟩ v2).setCell ⟨z, 3, none⟩ v3).setCell ⟨z, 4, none⟩ v4).setCell ⟨z, 5, none⟩ v5) z (.cells #[v0, v1, v2, v3, v4, v5] T) := by
 have k := (hp_set (hp_set (hp_set (hp_set (hp_set (hp_set h 0 v0) 1 v1) 2 v2) 3 v3) 4 v4) 5 v5)
 rw [st6_arr c hc] at k
 exact k
def fnV (f : FuncId) : Value := .func (.func f) #[] #[]
set_option maxRecDepth 100000 in
set_option maxHeartbeats 8000000 in
theorem codecs_any (w : World) :
  Calls Try.prog 34 #[] w fun e w' => e = .returned (.agg #[fnV 69, fnV 68, fnV 70, fnV 71, fnV 72, fnV 68]) ∧ BW w w' := by
 go_enter Try.func34, Try.ntmps34
 go_upto_region 2 with (fail)
 have B1 : BW w (w.alloc (.cells #[.nilFunc, .nilFunc, .nilFunc, .nilFunc, .nilFunc, .nilFunc] 106)) := (BW.refl w).alloc
 have X1 := HpB.new w (.cells #[.nilFunc, .nilFunc, .nilFunc, .nilFunc, .nilFunc, .nilFunc] 106)
 generalize w.alloc (.cells #[.nilFunc, .nilFunc, .nilFunc, .nilFunc, .nilFunc, .nilFunc] 106) = w1 at *
 generalize hgx : w.heap.size = gx at *
 have q0 := (hp_cell X1 0).trans (show _ = some Value.nilFunc from rfl)
 have q1 := (hp_cell X1 1).trans (show _ = some Value.nilFunc from rfl)
 have q2 := (hp_cell X1 2).trans (show _ = some Value.nilFunc from rfl)
 have q3 := (hp_cell X1 3).trans (show _ = some Value.nilFunc from rfl)
 have q4 := (hp_cell X1 4).trans (show _ = some Value.nilFunc from rfl)
 have q5 := (hp_cell X1 5).trans (show _ = some Value.nilFunc from rfl)
 have f0 := hp_frz X1 0
 have f1 := hp_frz X1 1
 have f2 := hp_frz X1 2
 have f3 := hp_frz X1 3
 have f4 := hp_frz X1 4
 have f5 := hp_frz X1 5
 have X2 := Lib.hid (X1.st6 rfl (fnV 69) (fnV 68) (fnV 70) (fnV 71) (fnV 72) (fnV 68))
 have T2 := Lib.hid (BW.stP B1 (still_st6 w1 gx (fnV 69) (fnV 68) (fnV 70) (fnV 71) (fnV 72) (fnV 68)) (fun k hk => by obtain rfl : k = gx := (by simpa using hk); exact Nat.le_of_eq hgx))
 replace X1 := Lib.hid X1
 replace B1 := Lib.hid B1
 replace hgx := Lib.hid hgx
 go_wp2_with fail
 obtain ⟨w2, hw2⟩ : ∃ w2, w2 = (((((w1.setCell ⟨gx, 0, none⟩ (fnV 69)).setCell ⟨gx, 1, none⟩ (fnV 68)).setCell ⟨gx, 2, none⟩ (fnV 70)).setCell ⟨gx, 3, none⟩ (fnV 71)).setCell ⟨gx, 4, none⟩ (fnV 72)).setCell ⟨gx, 5, none⟩ (fnV 68) := ⟨_, rfl⟩
 rw [← hw2] at X2 T2
 have q0 := hp_cell X2.out 0
 have q1 := hp_cell X2.out 1
 have q2 := hp_cell X2.out 2
 have q3 := hp_cell X2.out 3
 have q4 := hp_cell X2.out 4
 have q5 := hp_cell X2.out 5
 unfold fnV at hw2 q0 q1 q2 q3 q4 q5
 rw [← hw2]
 exact bodyPost_ret (v := .agg #[fnV 69, fnV 68, fnV 70, fnV 71, fnV 72, fnV 68]) (by simp [results, Try.results34, go_sem, q0, q1, q2, q3, q4, q5, fnV]) rfl ⟨rfl, T2.out⟩
end Go.Proofs.Ytojedpahaifjgaa

namespace Go.Proofs.Ytojedpahaifjgaa
open Go.RowKit
def limC (pk by_ again : Int) : Array Value := #[.int .i64 0, .int .i64 0, .int .i64 0, .int .i64 0, .int .i64 0, .int .i64 0, .int .i64 pk, .int .i64 by_, .int .u64 again]
def kfP : Value := fnV 69
def pfP : Value := fnV 68
structure EgI (w : World) (base g gc gr gb : Nat) (src many wanted goes first : Int) (fol : Bool) (a0 b0 : Int) (out : Bool) (l0 pk by_ : Int) (v : Value) (L : PL) (rate burst hav : Int) : Prop where
 hp : ∃ a1 a2 b1 b2 l1 l2, HpB w g (.cells (egC gc kfP pfP src first fol a0 a1 a2 b0 b1 b2 out l0 l1 l2 gr gb) 57)
 ch : HpB w gc (.cells (chC many wanted goes) 112)
 rg : RingV w base gr pk by_ v L
 bk : Bk w gb rate burst hav
theorem EgI.bw {w w' : World} {base g gc gr gb src many wanted goes first fol a0 b0 out l0 pk by_ v L rate burst hav} (h : EgI w base g gc gr gb src many wanted goes first fol a0 b0 out l0 pk by_ v L rate burst hav) (b : BW w w') : EgI w' base g gc gr gb src many wanted goes first fol a0 b0 out l0 pk by_ v L rate burst hav := by
 obtain ⟨⟨a1, a2, b1, b2, l1, l2, hp⟩, ch, rg, bk⟩ := h
 exact ⟨⟨a1, a2, b1, b2, l1, l2, hp.bw b⟩, ch.bw b, rg.bw b, b.heap bk⟩
end Go.Proofs.Ytojedpahaifjgaa
