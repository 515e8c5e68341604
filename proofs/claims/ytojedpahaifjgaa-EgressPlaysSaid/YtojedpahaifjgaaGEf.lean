/- The reference's writer (tenailleref22): Top, High; printed by wip/gen/genEpA.py. No condition but the sizes'. The reference's writer (tenailleref22): High, Follow. No condition but the sizes'. The reference's writer (tenailleref22): Follow, taken; printed by wip/gen/genEpD.py. No condition but the numbers' bounds. The reference's writer (tenailleref22): Map, refused; printed by wip/gen/genEpE.py. No condition. -/
import Derived.Test.YtojedpahaifjgaaGEd
import Derived.Test.YtojedpahaifjgaaGEe
import Derived.Test.YtojedpahaifjgaaSwh
namespace Go.Proofs.Ytojedpahaifjgaa
open Go.RowKit
abbrev Mpd := Int × Int × Int
def mpV (x : Mpd) : List Value := [.int .i64 x.1, .int .u32 x.2.1, .int .u16 x.2.2]
def EMp : Elt Mpd := pureE 3 mpV (by decide) (fun _ => rfl) (fun r u hu => by simp only [mpV, List.mem_cons, List.not_mem_nil, or_false] at hu; rcases hu with rfl | rfl | rfl <;> rfl)
theorem slMp : SlTy Try.prog 127 51 3 16 := SlTy.mk' Try.underlying127 (by kernel_rfl) (by decide)
def mi (L : List Mpd) (k : Nat) : Int := (L.getD k (0, 0, 0)).1
def topR (L : List Mpd) : Nat → Option Nat
 | 0 => none
 | k + 1 => match topR L k with
  | none => some k
  | some a => if mi L a ≤ mi L k then some k else some a
theorem topR_succ (L : List Mpd) (k : Nat) : topR L (k + 1) = match topR L k with
  | none => some k
  | some a => if mi L a ≤ mi L k then some k else some a := rfl
theorem topR_spec (L : List Mpd) : ∀ k, match topR L k with
  | none => k = 0
  | some a => a < k
 | 0 => rfl
 | k + 1 => by
  have h := topR_spec L k
  rw [topR_succ]
  cases e : topR L k with
  | none => exact Nat.lt_succ_self _
  | some a =>
   rw [e] at h
   dsimp only at h ⊢
   split
   ·rename_i b hb
    split at hb <;> (cases hb)
   ·rename_i b hb
    split at hb <;> (cases hb; omega)
theorem mi_app {L : List Mpd} {y : Mpd} {k : Nat} (h : k < L.length) : mi (L ++ [y]) k = mi L k := by
 unfold mi List.getD
 rw [List.getElem?_append_left h]
theorem topR_app (L : List Mpd) (y : Mpd) : ∀ k, k ≤ L.length → topR (L ++ [y]) k = topR L k
 | 0, _ => rfl
 | k + 1, h => by
  rw [topR_succ, topR_succ, topR_app L y k (by omega)]
  have hs := topR_spec L k
  cases e : topR L k with
  | none => rfl
  | some a =>
   rw [e] at hs
   dsimp only at hs ⊢
   rw [mi_app (by omega), mi_app (by omega)]
theorem mp_form {T : TypeId} {w : World} {base : Nat} {sv : Option Addr} {n cap : Nat} {L : List Mpd} (h : EQ EMp T w base (.slice sv n cap) n L) (h0 : 0 < n) :
  ∃ g o, sv = some ⟨g, o, none⟩ ∧ ∀ i, i < n → w.cell? ⟨g, o + i * 3, none⟩ = some (.int .i64 (mi L i)) := by
 obtain ⟨g, o, cap', hsl, _, hlt, _, _, hce⟩ := h.form h0
 simp only [Value.slice.injEq] at hsl
 refine ⟨g, o, hsl.1, fun i hi => ?_⟩
 have hi' : i < L.length := by rw [h.1]; exact hi
 obtain ⟨c, hc, hcc⟩ := hce i hi'
 have hc' : c = mpV L[i] := hc
 have z0 := hcc 0 (by decide)
 have e2 : EMp.size = 3 := rfl
 rw [hc', e2, Nat.add_zero] at z0
 rw [z0]
 unfold mi mpV List.getD
 rw [List.getElem?_eq_getElem hi']
 rfl
def w22 (first : Int) (fol : Bool) (a b : Mpd) (v : Value) : Array Value := #[.int .i64 first, .bool fol, .int .i64 a.1, .int .u32 a.2.1, .int .u16 a.2.2, .int .i64 b.1, .int .u32 b.2.1, .int .u16 b.2.2, v]
structure W22 (w : World) (base g : Nat) (first : Int) (fol : Bool) (a b : Mpd) (v : Value) (L : List Mpd) : Prop where
 hp : HpB w g (.cells (w22 first fol a b v) 129)
 q : EQ EMp 51 w base v L.length L
theorem W22.bw {w w' : World} {base g : Nat} {first : Int} {fol : Bool} {a b : Mpd} {v : Value} {L : List Mpd} (h : W22 w base g first fol a b v L) (hb : BW w w') : W22 w' base g first fol a b v L := ⟨h.hp.bw hb, h.q.bw hb⟩
set_option maxRecDepth 100000 in
set_option maxHeartbeats 8000000 in
theorem top_any (base g : Nat) (first : Int) (fol : Bool) (a b : Mpd) (v : Value) (L : List Mpd) (w : World) (h : W22 w base g first fol a b v L) :
  Calls Try.prog 83 #[.pointer (some ⟨g, 0, none⟩)] w fun e w' => e = .returned (.int .i64 (atI (topR L L.length))) ∧ BW w w' := by
 obtain ⟨sv, cv, rfl, hnc, hmc⟩ := h.q.len
 have z2 : w.cell? ⟨g, 8, none⟩ = some (.slice sv L.length cv) := hp_cell h.hp 8
 have hH := Lib.hid h.q
 have hsp := Lib.hid (topR_spec L)
 unfold maxLen at hmc
 clear h
 have hsu := Lib.hid (topR_succ L)
 generalize hn : L.length = n at *
 replace hn := Lib.hid hn
 replace z2 := Lib.hid z2
 go_enter Try.func83, Try.ntmps83
 go_upto_region 3 with (fail)
 go_loopg [3, 4] n (fun m' s i wx => ∃ k : Nat, m' = n - k ∧ k ≤ n ∧ s = .int .i64 (atI (topR L k)) ∧ i = .int .i64 (k : Nat) ∧ Hid (BW w wx))
 case atStart => exact ⟨0, by omega, by omega, rfl, rfl, BW.refl _⟩
 case round =>
  obtain ⟨k, rfl, hk, rfl, rfl, B⟩ := hrel
  have z2 := B.out.cell z2.out
  by_cases hkn : k < n
  ·have d : decide ((k : Int) < (n : Int)) = true := by simp; omega
   have hks := hsu.out k
   have hia := hsp.out k
   obtain ⟨b', o, rfl, hc⟩ := mp_form (hH.out.bw B.out) (by omega)
   have y1 := hc k hkn
   replace hc := Lib.hid hc
   cases hl : topR L k with
   | none =>
    rw [hl] at hks
    dsimp only at hks
    have e1 : atI none = -1 := rfl
    rw [e1]
    clear hia e1
    replace hks := Lib.hid hks
    replace hl := Lib.hid hl
    go_upto_region 5 with (fail)
    refine wp_region_gg [] [] [] (by kernel_rfl) ?_
    refine hoist [] [] (a1 := ?_) 0 rfl (by kernel_rfl) (.inl ⟨rfl, rfl⟩) rfl rfl rfl (fun x K hK => ?_) ?_
    rotate_left
    ·go_big_quiet_op
     exact hK
    refine hoist [] [] (a1 := ?_) 1 rfl (by kernel_rfl) (.inl ⟨rfl, rfl⟩) rfl rfl rfl (fun x K hK => ?_) ?_
    rotate_left
    ·go_big_quiet_op
     exact hK
    refine hoist [] [] (a1 := ?_) 2 rfl (by kernel_rfl) (.inl ⟨rfl, rfl⟩) rfl rfl rfl (fun x K hK => ?_) ?_
    rotate_left
    ·go_big_quiet_op
     exact hK
    refine hoist_skip [] [] 3 rfl (by kernel_rfl) (.inl ⟨rfl, rfl⟩) rfl (a1 := ?_) ?_ ?_
    rotate_left
    ·simp only [Act.put, List.setIfInBounds_toArray, List.set_cons_succ, List.set_cons_zero]; rfl
    refine hoist_skip [] [] 4 rfl (by kernel_rfl) (.inl ⟨rfl, rfl⟩) rfl (a1 := ?_) ?_ ?_
    rotate_left
    ·simp only [Act.put, List.setIfInBounds_toArray, List.set_cons_succ, List.set_cons_zero]; rfl
    refine hoist_skip [] [] 5 rfl (by kernel_rfl) (.inl ⟨rfl, rfl⟩) rfl (a1 := ?_) ?_ ?_
    rotate_left
    ·simp only [Act.put, List.setIfInBounds_toArray, List.set_cons_succ, List.set_cons_zero]; rfl
    refine hoist_skip [] [] 6 rfl (by kernel_rfl) (.inl ⟨rfl, rfl⟩) rfl (a1 := ?_) ?_ ?_
    rotate_left
    ·simp only [Act.put, List.setIfInBounds_toArray, List.set_cons_succ, List.set_cons_zero]; rfl
    refine hoist_skip [] [] 7 rfl (by kernel_rfl) (.inl ⟨rfl, rfl⟩) rfl (a1 := ?_) ?_ ?_
    rotate_left
    ·simp only [Act.put, List.setIfInBounds_toArray, List.set_cons_succ, List.set_cons_zero]; rfl
    refine hoist_skip [] [] 8 rfl (by kernel_rfl) (.inl ⟨rfl, rfl⟩) rfl (a1 := ?_) ?_ ?_
    rotate_left
    ·simp only [Act.put, List.setIfInBounds_toArray, List.set_cons_succ, List.set_cons_zero]; rfl
    refine hoist_skip [] [] 9 rfl (by kernel_rfl) (.inl ⟨rfl, rfl⟩) rfl (a1 := ?_) ?_ ?_
    rotate_left
    ·simp only [Act.put, List.setIfInBounds_toArray, List.set_cons_succ, List.set_cons_zero]; rfl
    refine hoist_skip [] [] 10 rfl (by kernel_rfl) (.inl ⟨rfl, rfl⟩) rfl (a1 := ?_) ?_ ?_
    rotate_left
    ·simp only [Act.put, List.setIfInBounds_toArray, List.set_cons_succ, List.set_cons_zero]; rfl
    refine hoist_skip [] [] 11 rfl (by kernel_rfl) (.inl ⟨rfl, rfl⟩) rfl (a1 := ?_) ?_ ?_
    rotate_left
    ·simp only [Act.put, List.setIfInBounds_toArray, List.set_cons_succ, List.set_cons_zero]; rfl
    refine hoist_skip [] [] 12 rfl (by kernel_rfl) (.inl ⟨rfl, rfl⟩) rfl (a1 := ?_) ?_ ?_
    rotate_left
    ·simp only [Act.put, List.setIfInBounds_toArray, List.set_cons_succ, List.set_cons_zero]; rfl
    refine hoist_skip [] [] 13 rfl (by kernel_rfl) (.inl ⟨rfl, rfl⟩) rfl (a1 := ?_) ?_ ?_
    rotate_left
    ·simp only [Act.put, List.setIfInBounds_toArray, List.set_cons_succ, List.set_cons_zero]; rfl
    refine hoist_skip [] [] 14 rfl (by kernel_rfl) (.inl ⟨rfl, rfl⟩) rfl (a1 := ?_) ?_ ?_
    rotate_left
    ·simp only [Act.put, List.setIfInBounds_toArray, List.set_cons_succ, List.set_cons_zero]; rfl
    refine hoist_skip [] [] 15 rfl (by kernel_rfl) (.inl ⟨rfl, rfl⟩) rfl (a1 := ?_) ?_ ?_
    rotate_left
    ·simp only [Act.put, List.setIfInBounds_toArray, List.set_cons_succ, List.set_cons_zero]; rfl
    refine hoist_skip [] [] 16 rfl (by kernel_rfl) (.inl ⟨rfl, rfl⟩) rfl (a1 := ?_) ?_ ?_
    rotate_left
    ·simp only [Act.put, List.setIfInBounds_toArray, List.set_cons_succ, List.set_cons_zero]; rfl
    refine hoist_skip [] [] 17 rfl (by kernel_rfl) (.inl ⟨rfl, rfl⟩) rfl (a1 := ?_) ?_ ?_
    rotate_left
    ·simp only [Act.put, List.setIfInBounds_toArray, List.set_cons_succ, List.set_cons_zero]; rfl
    refine hoist_skip [] [] 18 rfl (by kernel_rfl) (.inl ⟨rfl, rfl⟩) rfl (a1 := ?_) ?_ ?_
    rotate_left
    ·simp only [Act.put, List.setIfInBounds_toArray, List.set_cons_succ, List.set_cons_zero]; rfl
    refine hoist_skip [] [] 19 rfl (by kernel_rfl) (.inl ⟨rfl, rfl⟩) rfl (a1 := ?_) ?_ ?_
    rotate_left
    ·simp only [Act.put, List.setIfInBounds_toArray, List.set_cons_succ, List.set_cons_zero]; rfl
    refine hoist [] [] (a1 := ?_) 20 rfl (by kernel_rfl) (.inl ⟨rfl, rfl⟩) rfl rfl rfl (fun x K hK => ?_) ?_
    rotate_left
    ·go_big_quiet_op
     exact hK
    refine done (by kernel_rfl) (fun xr => ?_)
    have BX := Lib.hid (B.out.trans xr.bw)
    clear y1 z2 d
    go_wp2_with fail
    go_roundg (n - (k + 1))
    case measure => omega
    case rel => exact ⟨k + 1, rfl, by omega, by rw [hks.out]; rfl, by push_cast; rfl, BX⟩
   | some a =>
    rw [hl] at hks hia
    dsimp only at hks
    have e1 : atI (some a) = (a : Nat) := rfl
    rw [e1]
    have ha : a < k := hia
    have y2 := hc.out a (by omega)
    have d3 : decide ((a : Int) < 0) = false := by simp
    clear hia e1
    by_cases hc2 : mi L a ≤ mi L k
    ·rw [if_pos hc2] at hks
     have d4 : decide (mi L a ≤ mi L k) = true := by simpa using hc2
     replace hks := Lib.hid hks
     replace hl := Lib.hid hl
     replace hc2 := Lib.hid hc2
     go_upto_region 5 with (fail)
     have l3 := fun x : LaterS [] wr => x.cell z2 (by simp)
     have ly := fun x : LaterS [] wr => x.cell y1 (by simp)
     have la := fun x : LaterS [] wr => x.cell y2 (by simp)
     clear y1 y2 z2
     refine wp_region_gg [] [] [] (by kernel_rfl) ?_
     refine hoist [] [] (a1 := ?_) 0 rfl (by kernel_rfl) (.inl ⟨rfl, rfl⟩) rfl rfl rfl (fun x K hK => ?_) ?_
     rotate_left
     ·go_big_quiet_op
      exact hK
     refine hoist [] [] (a1 := ?_) 1 rfl (by kernel_rfl) (.inl ⟨rfl, rfl⟩) rfl rfl rfl (fun x K hK => ?_) ?_
     rotate_left
     ·go_big_quiet_op
      exact hK
     refine hoist [] [] (a1 := ?_) 2 rfl (by kernel_rfl) (.inl ⟨rfl, rfl⟩) rfl rfl rfl (fun x K hK => ?_) ?_
     rotate_left
     ·go_big_quiet_op
      exact hK
     refine hoist [] [] (a1 := ?_) 3 rfl (by kernel_rfl) (.inl ⟨rfl, rfl⟩) rfl rfl rfl (fun x K hK => ?_) ?_
     rotate_left
     ·go_big_quiet_op
      exact hK
     refine hoist [] [] (a1 := ?_) 4 rfl (by kernel_rfl) (.inl ⟨rfl, rfl⟩) rfl rfl rfl (fun x K hK => ?_) ?_
     rotate_left
     ·go_big_quiet_op
      exact hK
     refine hoist [] [] (a1 := ?_) 5 rfl (by kernel_rfl) (.inl ⟨rfl, rfl⟩) rfl rfl rfl (fun x K hK => ?_) ?_
     rotate_left
     ·go_big_quiet_op
      exact hK
     refine hoist [] [] (a1 := ?_) 6 rfl (by kernel_rfl) (.inl ⟨rfl, rfl⟩) rfl rfl rfl (fun x K hK => ?_) ?_
     rotate_left
     ·go_big_quiet_op
      exact hK
     refine hoist [] [] (a1 := ?_) 7 rfl (by kernel_rfl) (.inl ⟨rfl, rfl⟩) rfl rfl rfl (fun x K hK => ?_) ?_
     rotate_left
     ·go_big_quiet_op
      exact hK
     refine hoist [] [] (a1 := ?_) 8 rfl (by kernel_rfl) (.inl ⟨rfl, rfl⟩) rfl rfl rfl (fun x K hK => ?_) ?_
     rotate_left
     ·go_big_quiet_op
      exact hK
     refine hoist [] [] (a1 := ?_) 9 rfl (by kernel_rfl) (.inl ⟨rfl, rfl⟩) rfl rfl rfl (fun x K hK => ?_) ?_
     rotate_left
     ·go_big_quiet_op
      exact hK
     refine hoist [] [] (a1 := ?_) 10 rfl (by kernel_rfl) (.inl ⟨rfl, rfl⟩) rfl rfl rfl (fun x K hK => ?_) ?_
     rotate_left
     ·go_big_quiet_op
      exact hK
     refine hoist [] [] (a1 := ?_) 11 rfl (by kernel_rfl) (.inl ⟨rfl, rfl⟩) rfl rfl rfl (fun x K hK => ?_) ?_
     rotate_left
     ·go_big_quiet_op
      exact hK
     refine hoist [] [] (a1 := ?_) 12 rfl (by kernel_rfl) (.inl ⟨rfl, rfl⟩) rfl rfl rfl (fun x K hK => ?_) ?_
     rotate_left
     ·go_big_quiet_op
      exact hK
     refine hoist [] [] (a1 := ?_) 13 rfl (by kernel_rfl) (.inl ⟨rfl, rfl⟩) rfl rfl rfl (fun x K hK => ?_) ?_
     rotate_left
     ·go_big_quiet_op
      exact hK
     refine hoist [] [] (a1 := ?_) 14 rfl (by kernel_rfl) (.inl ⟨rfl, rfl⟩) rfl rfl rfl (fun x K hK => ?_) ?_
     rotate_left
     ·go_big_quiet_op
      exact hK
     refine hoist [] [] (a1 := ?_) 15 rfl (by kernel_rfl) (.inl ⟨rfl, rfl⟩) rfl rfl rfl (fun x K hK => ?_) ?_
     rotate_left
     ·go_big_quiet_op
      exact hK
     refine hoist [] [] (a1 := ?_) 16 rfl (by kernel_rfl) (.inl ⟨rfl, rfl⟩) rfl rfl rfl (fun x K hK => ?_) ?_
     rotate_left
     ·go_big_quiet_op
      exact hK
     refine hoist [] [] (a1 := ?_) 17 rfl (by kernel_rfl) (.inl ⟨rfl, rfl⟩) rfl rfl rfl (fun x K hK => ?_) ?_
     rotate_left
     ·go_big_quiet_op
      exact hK
     refine hoist [] [] (a1 := ?_) 18 rfl (by kernel_rfl) (.inl ⟨rfl, rfl⟩) rfl rfl rfl (fun x K hK => ?_) ?_
     rotate_left
     ·go_big_quiet_op
      exact hK
     refine hoist [] [] (a1 := ?_) 19 rfl (by kernel_rfl) (.inl ⟨rfl, rfl⟩) rfl rfl rfl (fun x K hK => ?_) ?_
     rotate_left
     ·go_big_quiet_op
      exact hK
     refine hoist [] [] (a1 := ?_) 20 rfl (by kernel_rfl) (.inl ⟨rfl, rfl⟩) rfl rfl rfl (fun x K hK => ?_) ?_
     rotate_left
     ·go_big_quiet_op
      exact hK
     refine done (by kernel_rfl) (fun xr => ?_)
     have BX := Lib.hid (B.out.trans xr.bw)
     clear d3 d4 d l3 ly la
     go_wp2_with fail
     go_roundg (n - (k + 1))
     case measure => omega
     case rel => exact ⟨k + 1, rfl, by omega, by rw [hks.out]; rfl, by push_cast; rfl, BX⟩
    ·rw [if_neg hc2] at hks
     have d4 : decide (mi L a ≤ mi L k) = false := by simpa using hc2
     replace hks := Lib.hid hks
     replace hl := Lib.hid hl
     replace hc2 := Lib.hid hc2
     go_upto_region 5 with (fail)
     have l3 := fun x : LaterS [] wr => x.cell z2 (by simp)
     have ly := fun x : LaterS [] wr => x.cell y1 (by simp)
     have la := fun x : LaterS [] wr => x.cell y2 (by simp)
     clear y1 y2 z2
     refine wp_region_gg [] [] [] (by kernel_rfl) ?_
     refine hoist [] [] (a1 := ?_) 0 rfl (by kernel_rfl) (.inl ⟨rfl, rfl⟩) rfl rfl rfl (fun x K hK => ?_) ?_
     rotate_left
     ·go_big_quiet_op
      exact hK
     refine hoist [] [] (a1 := ?_) 1 rfl (by kernel_rfl) (.inl ⟨rfl, rfl⟩) rfl rfl rfl (fun x K hK => ?_) ?_
     rotate_left
     ·go_big_quiet_op
      exact hK
     refine hoist [] [] (a1 := ?_) 2 rfl (by kernel_rfl) (.inl ⟨rfl, rfl⟩) rfl rfl rfl (fun x K hK => ?_) ?_
     rotate_left
     ·go_big_quiet_op
      exact hK
     refine hoist [] [] (a1 := ?_) 3 rfl (by kernel_rfl) (.inl ⟨rfl, rfl⟩) rfl rfl rfl (fun x K hK => ?_) ?_
     rotate_left
     ·go_big_quiet_op
      exact hK
     refine hoist [] [] (a1 := ?_) 4 rfl (by kernel_rfl) (.inl ⟨rfl, rfl⟩) rfl rfl rfl (fun x K hK => ?_) ?_
     rotate_left
     ·go_big_quiet_op
      exact hK
     refine hoist [] [] (a1 := ?_) 5 rfl (by kernel_rfl) (.inl ⟨rfl, rfl⟩) rfl rfl rfl (fun x K hK => ?_) ?_
     rotate_left
     ·go_big_quiet_op
      exact hK
     refine hoist [] [] (a1 := ?_) 6 rfl (by kernel_rfl) (.inl ⟨rfl, rfl⟩) rfl rfl rfl (fun x K hK => ?_) ?_
     rotate_left
     ·go_big_quiet_op
      exact hK
     refine hoist [] [] (a1 := ?_) 7 rfl (by kernel_rfl) (.inl ⟨rfl, rfl⟩) rfl rfl rfl (fun x K hK => ?_) ?_
     rotate_left
     ·go_big_quiet_op
      exact hK
     refine hoist [] [] (a1 := ?_) 8 rfl (by kernel_rfl) (.inl ⟨rfl, rfl⟩) rfl rfl rfl (fun x K hK => ?_) ?_
     rotate_left
     ·go_big_quiet_op
      exact hK
     refine hoist [] [] (a1 := ?_) 9 rfl (by kernel_rfl) (.inl ⟨rfl, rfl⟩) rfl rfl rfl (fun x K hK => ?_) ?_
     rotate_left
     ·go_big_quiet_op
      exact hK
     refine hoist [] [] (a1 := ?_) 10 rfl (by kernel_rfl) (.inl ⟨rfl, rfl⟩) rfl rfl rfl (fun x K hK => ?_) ?_
     rotate_left
     ·go_big_quiet_op
      exact hK
     refine hoist [] [] (a1 := ?_) 11 rfl (by kernel_rfl) (.inl ⟨rfl, rfl⟩) rfl rfl rfl (fun x K hK => ?_) ?_
     rotate_left
     ·go_big_quiet_op
      exact hK
     refine hoist [] [] (a1 := ?_) 12 rfl (by kernel_rfl) (.inl ⟨rfl, rfl⟩) rfl rfl rfl (fun x K hK => ?_) ?_
     rotate_left
     ·go_big_quiet_op
      exact hK
     refine hoist [] [] (a1 := ?_) 13 rfl (by kernel_rfl) (.inl ⟨rfl, rfl⟩) rfl rfl rfl (fun x K hK => ?_) ?_
     rotate_left
     ·go_big_quiet_op
      exact hK
     refine hoist [] [] (a1 := ?_) 14 rfl (by kernel_rfl) (.inl ⟨rfl, rfl⟩) rfl rfl rfl (fun x K hK => ?_) ?_
     rotate_left
     ·go_big_quiet_op
      exact hK
     refine hoist [] [] (a1 := ?_) 15 rfl (by kernel_rfl) (.inl ⟨rfl, rfl⟩) rfl rfl rfl (fun x K hK => ?_) ?_
     rotate_left
     ·go_big_quiet_op
      exact hK
     refine hoist [] [] (a1 := ?_) 16 rfl (by kernel_rfl) (.inl ⟨rfl, rfl⟩) rfl rfl rfl (fun x K hK => ?_) ?_
     rotate_left
     ·go_big_quiet_op
      exact hK
     refine hoist [] [] (a1 := ?_) 17 rfl (by kernel_rfl) (.inl ⟨rfl, rfl⟩) rfl rfl rfl (fun x K hK => ?_) ?_
     rotate_left
     ·go_big_quiet_op
      exact hK
     refine hoist [] [] (a1 := ?_) 18 rfl (by kernel_rfl) (.inl ⟨rfl, rfl⟩) rfl rfl rfl (fun x K hK => ?_) ?_
     rotate_left
     ·go_big_quiet_op
      exact hK
     refine hoist [] [] (a1 := ?_) 19 rfl (by kernel_rfl) (.inl ⟨rfl, rfl⟩) rfl rfl rfl (fun x K hK => ?_) ?_
     rotate_left
     ·go_big_quiet_op
      exact hK
     refine hoist [] [] (a1 := ?_) 20 rfl (by kernel_rfl) (.inl ⟨rfl, rfl⟩) rfl rfl rfl (fun x K hK => ?_) ?_
     rotate_left
     ·go_big_quiet_op
      exact hK
     refine done (by kernel_rfl) (fun xr => ?_)
     have BX := Lib.hid (B.out.trans xr.bw)
     clear d3 d4 d l3 ly la
     go_wp2_with fail
     go_roundg (n - (k + 1))
     case measure => omega
     case rel => exact ⟨k + 1, rfl, by omega, by rw [hks.out]; rfl, by push_cast; rfl, BX⟩
  ·obtain rfl : k = n := by omega
   have d : decide ((k : Int) < (k : Int)) = false := by simp
   go_wp2_with fail
   go_ret
   exact ⟨rfl, B.out⟩
end Go.Proofs.Ytojedpahaifjgaa

namespace Go.Proofs.Ytojedpahaifjgaa
open Go.RowKit
def hiN (L : List Mpd) : Int := match topR L L.length with
 | none => -1
 | some k => mi L k
theorem swMp : SwT 51 3 := ⟨⟨_, Try.underlying51, rfl, rfl⟩, by kernel_rfl⟩
set_option maxRecDepth 100000 in
set_option maxHeartbeats 8000000 in
theorem high22_any (base g : Nat) (first : Int) (fol : Bool) (a b : Mpd) (v : Value) (L : List Mpd) (w : World) (h : W22 w base g first fol a b v L) :
  Calls Try.prog 56 #[.pointer (some ⟨g, 0, none⟩)] w fun e w' => e = .returned (.int .i64 (hiN L)) ∧ BW w w' := by
 obtain ⟨sv, cv, rfl, hnc, hmc⟩ := h.q.len
 unfold maxLen at hmc
 have cT := Lib.hid (top_any base g first fol a b _ L w h)
 have hsp := topR_spec L L.length
 have hH := Lib.hid h
 clear h
 cases ht : topR L L.length with
 | none =>
  rw [ht] at cT
  have e : hiN L = -1 := by unfold hiN; rw [ht]
  rw [e]
  clear hsp
  replace e := Lib.hid e
  replace ht := Lib.hid ht
  go_enter Try.func56, Try.ntmps56
  go_wp2_with fail
  refine Calls.mono cT.out ?_
  rintro e w1 ⟨rfl, hb⟩
  rw [show atI none = -1 from rfl]
  replace hb := Lib.hid hb
  dsimp only
  go_wp2_with fail
  go_ret
  exact ⟨rfl, hb.out⟩
 | some k =>
  rw [ht] at cT hsp
  have hk : k < L.length := hsp
  have e : hiN L = mi L k := by unfold hiN; rw [ht]
  rw [e]
  have d1 : decide ((k : Int) < 0) = false := by simp
  obtain ⟨gb, ob, rfl, hc⟩ := mp_form hH.out.q (by omega)
  have y1 := Lib.hid (hc k hk)
  have z8 := Lib.hid ((hp_cell hH.out.hp 8).trans (show _ = some (.slice (some ⟨gb, ob, none⟩) L.length cv) from rfl))
  generalize L.length = n at *
  clear hsp hc
  replace e := Lib.hid e
  replace ht := Lib.hid ht
  go_enter Try.func56, Try.ntmps56
  go_wp2_with fail
  refine Calls.mono cT.out ?_
  rintro e w1 ⟨rfl, hb⟩
  rw [show atI (some k) = (k : Nat) from rfl]
  have y1 := hb.cell y1.out
  have z8 := hb.cell z8.out
  replace hb := Lib.hid hb
  dsimp only
  go_wp2_with fail
  go_ret
  exact ⟨rfl, hb.out⟩
set_option maxRecDepth 100000 in
set_option maxHeartbeats 8000000 in
theorem follow22_neg (base g : Nat) (first : Int) (fol : Bool) (a b x : Mpd) (v : Value) (L : List Mpd) (hx : x.1 < 0) (w : World) :
  Calls Try.prog 60 #[.pointer (some ⟨g, 0, none⟩), .agg #[.int .i64 x.1, .int .u32 x.2.1, .int .u16 x.2.2]] w fun e w' => e = .returned (.int .i64 10) ∧ BW w w' := by
 obtain ⟨i, s, p⟩ := x
 dsimp only at hx ⊢
 have d : decide (i < 0) = true := by simpa using hx
 have BA : BW w (w.alloc (.cells #[.int .i64 i, .int .u32 s, .int .u16 p] 51)) := (BW.refl w).alloc
 have X1 := HpB.new w (.cells #[.int .i64 i, .int .u32 s, .int .u16 p] 51)
 replace BA := Lib.hid BA
 go_enter Try.func60, Try.ntmps60
 go_upto_region 1 with (fail)
 generalize w.alloc _ = w1 at *
 generalize w.heap.size = gx at *
 have z0 := (hp_cell X1 0).trans (show _ = some (.int .i64 i) from rfl)
 go_wp2_with fail
 go_ret
 exact ⟨rfl, BA.out⟩
end Go.Proofs.Ytojedpahaifjgaa

namespace Go.Proofs.Ytojedpahaifjgaa
open Go.RowKit
def nxM (t : Mpd) : Mpd := (t.1 + 1, (t.2.1 + 3000) % 4294967296, (IntKind.u16.wrap (t.2.2 + 1)).tmod 32768)
def hereN (first : Int) (L : List Mpd) : Mpd := match topR L L.length with
 | none => (first, 0, 0)
 | some k => nxM (L.getD k (0, 0, 0))
theorem mp_range {T : TypeId} {w : World} {base : Nat} {sv : Option Addr} {n cap : Nat} {L : List Mpd} (h : EQ EMp T w base (.slice sv n cap) n L) (h0 : 0 < n) :
  ∃ g o, sv = some ⟨g, o, none⟩ ∧ ∀ i, i < n → w.rangeAt g (o + i * 3) (mpV (L.getD i (0, 0, 0))) := by
 obtain ⟨g, o, cap', hsl, _, hlt, _, _, hce⟩ := h.form h0
 simp only [Value.slice.injEq] at hsl
 refine ⟨g, o, hsl.1, fun i hi => ?_⟩
 have hi' : i < L.length := by rw [h.1]; exact hi
 obtain ⟨c, hc, hcc⟩ := hce i hi'
 have hc' : c = mpV L[i] := hc
 have e : L.getD i (0, 0, 0) = L[i] := by unfold List.getD; rw [List.getElem?_eq_getElem hi']; rfl
 rw [e]
 refine rangeAt_of (c := (mpV L[i]).toArray) (n := 3) (fun j hj => ?_) rfl
 have z0 := hcc j hj
 have e2 : EMp.size = 3 := rfl
 rw [hc', e2, ← Nat.add_assoc] at z0
 rw [z0, List.getElem?_toArray]
set_option maxRecDepth 100000 in
set_option maxHeartbeats 8000000 in
theorem follow_ok (base g : Nat) (first : Int) (fol : Bool) (a b x : Mpd) (v : Value) (L : List Mpd) (hx : 0 ≤ x.1) (hL : ∀ k, k < L.length → -1152921504606846976 ≤ mi L k ∧ mi L k ≤ 1152921504606846976) (w : World) (h : W22 w base g first fol a b v L) :
  Calls Try.prog 60 #[.pointer (some ⟨g, 0, none⟩), .agg #[.int .i64 x.1, .int .u32 x.2.1, .int .u16 x.2.2]] w fun e w' => e = .returned (.int .i64 0) ∧ W22 w' base g first true x (hereN first L) v L ∧ Still [g] w w' := by
 obtain ⟨i, s, p⟩ := x
 obtain ⟨a0, a1, a2⟩ := a
 obtain ⟨b0, b1, b2⟩ := b
 dsimp only at hx ⊢
 obtain ⟨hre, ehr⟩ : ∃ hre, hereN first L = hre := ⟨_, rfl⟩
 rw [ehr]
 replace ehr := Lib.hid ehr
 have d : decide (i < 0) = false := by simp; omega
 have BA : BW w (w.alloc (.cells #[.int .i64 i, .int .u32 s, .int .u16 p] 51)) := (BW.refl w).alloc
 have X1 := Lib.hid (HpB.new w (.cells #[.int .i64 i, .int .u32 s, .int .u16 p] 51))
 have hne : Hid (∀ k, v.ownBlock = some k → k ∉ [g]) := Lib.hid (fun k hk hm => h.q.ne h.hp (by decide) k hk (by simpa using hm))
 have H1 := Lib.hid (h.hp.bw BA)
 have Q1 := Lib.hid (h.q.bw BA)
 have Q0 := Lib.hid h.q
 replace BA := Lib.hid BA
 obtain ⟨sv, cv, rfl, hnc, hmc⟩ := h.q.len
 unfold maxLen at hmc
 clear h
 go_enter Try.func60, Try.ntmps60
 go_upto_region 1 with (fail)
 generalize w.alloc _ = w1 at *
 generalize w.heap.size = gx at *
 unfold w22 at *
 dsimp only at H1
 have x0 := (hp_cell X1.out 0).trans (show _ = some (.int .i64 i) from rfl)
 go_upto_region 3 with (fail)
 clear x0
 have y2 := hp_frz H1.out 2
 have z2 := (hp_cell H1.out 2).trans (show _ = some (.int .i64 a0) from rfl)
 have y3 := hp_frz H1.out 3
 have z3 := (hp_cell H1.out 3).trans (show _ = some (.int .u32 a1) from rfl)
 have y4 := hp_frz H1.out 4
 have z4 := (hp_cell H1.out 4).trans (show _ = some (.int .u16 a2) from rfl)
 have H2 : Hid (HpB (((w1.setCell ⟨g, 2, none⟩ (.int .i64 i)).setCell ⟨g, 3, none⟩ (.int .u32 s)).setCell ⟨g, 4, none⟩ (.int .u16 p)) g (.cells #[.int .i64 first, .bool fol, .int .i64 i, .int .u32 s, .int .u16 p, .int .i64 b0, .int .u32 b1, .int .u16 b2, .slice sv L.length cv] 129)) := Lib.hid (hp_set (hp_set (hp_set H1.out 2 _) 3 _) 4 _)
 have T2 : Still [g] w1 (((w1.setCell ⟨g, 2, none⟩ (.int .i64 i)).setCell ⟨g, 3, none⟩ (.int .u32 s)).setCell ⟨g, 4, none⟩ (.int .u16 p)) := ((still_sc w1 g 2 (.int .i64 i)).trans (still_sc _ g 3 (.int .u32 s))).trans (still_sc _ g 4 (.int .u16 p))
 replace T2 := Lib.hid T2
 go_upto_region 4 with (refine swLd swMp rfl rfl rfl X1.out rfl ?_)
 clear y2 y3 y4 z2 z3 z4 H1
 generalize ((w1.setCell ⟨g, 2, none⟩ (.int .i64 i)).setCell ⟨g, 3, none⟩ (.int .u32 s)).setCell ⟨g, 4, none⟩ (.int .u16 p) = w2 at *
 have y1 := hp_frz H2.out 1
 have z1 := (hp_cell H2.out 1).trans (show _ = some (.bool fol) from rfl)
 have H3 : Hid (HpB (w2.setCell ⟨g, 1, none⟩ (.bool true)) g (.cells #[.int .i64 first, .bool true, .int .i64 i, .int .u32 s, .int .u16 p, .int .i64 b0, .int .u32 b1, .int .u16 b2, .slice sv L.length cv] 129)) := Lib.hid (hp_set H2.out 1 _)
 have T3 := Lib.hid (T2.out.trans (still_sc w2 g 1 (.bool true)))
 go_upto_region 5 with (fail)
 clear y1 z1 H2 T2
 generalize w2.setCell _ _ = w3 at *
 have z0 := (hp_cell H3.out 0).trans (show _ = some (.int .i64 first) from rfl)
 have y5 := hp_frz H3.out 5
 have z5 := (hp_cell H3.out 5).trans (show _ = some (.int .i64 b0) from rfl)
 have y6 := hp_frz H3.out 6
 have z6 := (hp_cell H3.out 6).trans (show _ = some (.int .u32 b1) from rfl)
 have y7 := hp_frz H3.out 7
 have z7 := (hp_cell H3.out 7).trans (show _ = some (.int .u16 b2) from rfl)
 have H4 : Hid (HpB (((w3.setCell ⟨g, 5, none⟩ (.int .i64 first)).setCell ⟨g, 6, none⟩ (.int .u32 0)).setCell ⟨g, 7, none⟩ (.int .u16 0)) g (.cells #[.int .i64 first, .bool true, .int .i64 i, .int .u32 s, .int .u16 p, .int .i64 first, .int .u32 0, .int .u16 0, .slice sv L.length cv] 129)) := Lib.hid (hp_set (hp_set (hp_set H3.out 5 _) 6 _) 7 _)
 have T4 : Still [g] w3 (((w3.setCell ⟨g, 5, none⟩ (.int .i64 first)).setCell ⟨g, 6, none⟩ (.int .u32 0)).setCell ⟨g, 7, none⟩ (.int .u16 0)) := ((still_sc w3 g 5 (.int .i64 first)).trans (still_sc _ g 6 (.int .u32 0))).trans (still_sc _ g 7 (.int .u16 0))
 replace T4 := Lib.hid (T3.out.trans T4)
 go_upto_region 6 with (fail)
 clear y5 y6 y7 z0 z5 z6 z7 H3 T3
 generalize ((w3.setCell ⟨g, 5, none⟩ (.int .i64 first)).setCell ⟨g, 6, none⟩ (.int .u32 0)).setCell ⟨g, 7, none⟩ (.int .u16 0) = w4 at *
 have Q4 := Lib.hid (Q1.out.still T4.out (fun _ _ => trivial) hne.out)
 clear Q1
 have cT := Lib.hid (top_any base g first true (i, s, p) (first, 0, 0) _ L w4 ⟨H4.out, Q4.out⟩)
 have hsp := topR_spec L L.length
 cases ht : topR L L.length with
 | none =>
  rw [ht] at cT
  have e : hereN first L = (first, 0, 0) := by unfold hereN; rw [ht]
  clear hsp
  replace e := Lib.hid e
  replace ht := Lib.hid ht
  go_wp2_with fail
  refine Calls.mono cT.out ?_
  rintro e w5 ⟨rfl, hb⟩
  rw [show atI none = -1 from rfl]
  replace hb := Lib.hid hb
  dsimp only
  go_wp2_with fail
  go_ret
  rw [← ehr.out, e.out]
  exact ⟨rfl, ⟨H4.out.bw hb.out, Q4.out.bw hb.out⟩, (BA.out.still [g]).trans (T4.out.trans (hb.out.still [g]))⟩
 | some k =>
  rw [ht] at cT hsp
  have hk : k < L.length := hsp
  have hLk := hL k hk
  have e : hereN first L = nxM (L.getD k (0, 0, 0)) := by unfold hereN; rw [ht]
  obtain ⟨gq, oq, rfl, hr⟩ := mp_range Q4.out (by omega)
  have hR := hr k hk
  unfold mi at hLk
  generalize L.getD k (0, 0, 0) = t at *
  obtain ⟨t0, t1, t2⟩ := t
  have hR : Hid (w4.rangeAt gq (oq + k * 3) (#[.int .i64 t0, .int .u32 t1, .int .u16 t2] : Array Value).toList) := Lib.hid hR
  have d1 : decide ((0 : Int) ≤ (k : Int)) = true := by simp
  dsimp only at hLk
  clear hr hsp hL
  replace e := Lib.hid e
  replace ht := Lib.hid ht
  have z8 := (hp_cell H4.out 8).trans (show _ = some (.slice (some ⟨gq, oq, none⟩) L.length cv) from rfl)
  have Q4 := Lib.hid Q4
  generalize hn : L.length = n at *
  replace z8 := Lib.hid z8
  replace hn := Lib.hid hn
  go_wp2_with fail
  refine Calls.mono cT.out ?_
  rintro e w5 ⟨rfl, hb⟩
  rw [show atI (some k) = (k : Nat) from rfl]
  have z8 := hb.cell z8.out
  replace hR := Lib.hid (rangeAt_bw hR.out hb)
  have BB : BW w5 (w5.alloc (.cells #[.int .i64 t0, .int .u32 t1, .int .u16 t2] 51)) := (BW.refl w5).alloc
  have X5 := Lib.hid (HpB.new w5 (.cells #[.int .i64 t0, .int .u32 t1, .int .u16 t2] 51))
  replace BB := Lib.hid (hb.trans BB)
  clear hb
  dsimp only
  go_upto_region 9 with (first | (refine swLdC swMp rfl rfl rfl hR.out rfl ?_) | (refine swStN swMp rfl rfl rfl rfl rfl rfl (by kernel_rfl) ?_))
  generalize w5.alloc _ = w6 at *
  generalize w5.heap.size = gt at *
  have x0 := (hp_cell X5.out 0).trans (show _ = some (.int .i64 t0) from rfl)
  have x1 := (hp_cell X5.out 1).trans (show _ = some (.int .u32 t1) from rfl)
  have x2 := (hp_cell X5.out 2).trans (show _ = some (.int .u16 t2) from rfl)
  have H5 := Lib.hid (H4.out.bw BB.out)
  have y5 := hp_frz H5.out 5
  have z5 := (hp_cell H5.out 5).trans (show _ = some (.int .i64 first) from rfl)
  have y6 := hp_frz H5.out 6
  have z6 := (hp_cell H5.out 6).trans (show _ = some (.int .u32 0) from rfl)
  have y7 := hp_frz H5.out 7
  have z7 := (hp_cell H5.out 7).trans (show _ = some (.int .u16 0) from rfl)
  clear z8 H4 X5
  go_upto_region 10 with (fail)
  have H6 : Hid (HpB (((w6.setCell ⟨g, 5, none⟩ (.int .i64 (t0 + 1))).setCell ⟨g, 6, none⟩ (.int .u32 ((t1 + 3000) % 4294967296))).setCell ⟨g, 7, none⟩ (.int .u16 ((IntKind.u16.wrap (t2 + 1)).tmod 32768))) g (.cells #[.int .i64 first, .bool true, .int .i64 i, .int .u32 s, .int .u16 p, .int .i64 (t0 + 1), .int .u32 ((t1 + 3000) % 4294967296), .int .u16 ((IntKind.u16.wrap (t2 + 1)).tmod 32768), .slice (some ⟨gq, oq, none⟩) n cv] 129)) := Lib.hid (hp_set (hp_set (hp_set H5.out 5 _) 6 _) 7 _)
  have T6 : Still [g] w6 (((w6.setCell ⟨g, 5, none⟩ (.int .i64 (t0 + 1))).setCell ⟨g, 6, none⟩ (.int .u32 ((t1 + 3000) % 4294967296))).setCell ⟨g, 7, none⟩ (.int .u16 ((IntKind.u16.wrap (t2 + 1)).tmod 32768))) := ((still_sc w6 g 5 _).trans (still_sc _ g 6 _)).trans (still_sc _ g 7 _)
  replace T6 := Lib.hid (((BA.out.still [g]).trans T4.out).trans ((BB.out.still [g]).trans T6))
  clear y5 y6 y7 z5 z6 z7 x0 x1 x2 H5
  generalize ((w6.setCell ⟨g, 5, none⟩ (.int .i64 (t0 + 1))).setCell ⟨g, 6, none⟩ (.int .u32 ((t1 + 3000) % 4294967296))).setCell ⟨g, 7, none⟩ (.int .u16 ((IntKind.u16.wrap (t2 + 1)).tmod 32768)) = w7 at *
  go_wp2_with fail
  go_ret
  rw [← ehr.out, e.out]
  have hf : W22 w7 base g first true (i, s, p) (nxM (t0, t1, t2)) (.slice (some ⟨gq, oq, none⟩) n cv) L := ⟨H6.out, by
   rw [hn.out]
   exact Q0.out.still (T6.out) (fun _ _ => trivial) hne.out⟩
  rw [← hn.out] at hf
  exact ⟨rfl, hf, T6.out⟩
end Go.Proofs.Ytojedpahaifjgaa

namespace Go.Proofs.Ytojedpahaifjgaa
open Go.RowKit
set_option maxRecDepth 100000 in
set_option maxHeartbeats 8000000 in
theorem map22_no1 (base g : Nat) (first : Int) (a b x : Mpd) (v : Value) (L : List Mpd) (w : World) (h : W22 w base g first false a b v L) :
  Calls Try.prog 61 #[.pointer (some ⟨g, 0, none⟩), .agg #[.int .i64 x.1, .int .u32 x.2.1, .int .u16 x.2.2]] w fun e w' => e = .returned (.tuple #[.agg #[.int .i64 0, .int .u32 0, .int .u16 0], .int .i64 10]) ∧ BW w w' := by
 obtain ⟨i, s, p⟩ := x
 obtain ⟨a0, a1, a2⟩ := a
 obtain ⟨b0, b1, b2⟩ := b
 dsimp only
 have BA : BW w (w.alloc (.cells #[.int .i64 i, .int .u32 s, .int .u16 p] 51)) := (BW.refl w).alloc
 have X1 := HpB.new w (.cells #[.int .i64 i, .int .u32 s, .int .u16 p] 51)
 generalize hw1 : w.alloc (.cells #[.int .i64 i, .int .u32 s, .int .u16 p] 51) = w1 at *
 have BB : BW w1 (w1.alloc (.cells #[.int .i64 0, .int .u32 0, .int .u16 0] 51)) := (BW.refl w1).alloc
 have X2 := Lib.hid (HpB.new w1 (.cells #[.int .i64 0, .int .u32 0, .int .u16 0] 51))
 replace X1 := Lib.hid (X1.bw BB)
 have hz := Lib.hid BA.size
 have B2 := Lib.hid (BA.trans BB)
 have H2 := Lib.hid (h.hp.bw B2.out)
 clear h BA BB
 unfold w22 at H2
 dsimp only at H2
 go_enter Try.func61, Try.ntmps61
 go_upto_region 1 with (fail)
 generalize w1.alloc _ = w2 at *
 generalize hgx : w.heap.size = gx at *
 generalize hgy : w1.heap.size = gy at *
 replace hw1 := Lib.hid hw1
 replace hgx := Lib.hid hgx
 replace hgy := Lib.hid hgy
 have x0 := (hp_cell X1.out 0).trans (show _ = some (.int .i64 i) from rfl)
 have z1 := (hp_cell H2.out 1).trans (show _ = some (.bool false) from rfl)
 have X3 := Lib.hid (X2.out.rowS #[.int .i64 0, .int .u32 0, .int .u16 0])
 have B3 := Lib.hid (B2.out.row (show w.heap.size ≤ gy by have h1 := hgx.out; have h2 := hgy.out; have h3 := hz.out; omega) #[.int .i64 0, .int .u32 0, .int .u16 0])
 go_wp2_with (refine swSt swMp rfl rfl rfl rfl X2.out rfl rfl (by kernel_rfl) ?_)
 generalize w2.setRow _ _ = w9 at *
 have q0 := (hp_cell X3.out 0).trans (show _ = some (.int .i64 0) from rfl)
 have q1 := (hp_cell X3.out 1).trans (show _ = some (.int .u32 0) from rfl)
 have q2 := (hp_cell X3.out 2).trans (show _ = some (.int .u16 0) from rfl)
 refine bodyPost_ret (v := .tuple #[.agg #[.int .i64 0, .int .u32 0, .int .u16 0], .int .i64 10]) ?_ rfl ⟨rfl, B3.out⟩
 simp [results, Try.results61, go_sem, q0, q1, q2]
set_option maxRecDepth 100000 in
set_option maxHeartbeats 8000000 in
theorem map22_no2 (base g : Nat) (first : Int) (a b x : Mpd) (v : Value) (L : List Mpd) (hx : x.1 < 0) (w : World) (h : W22 w base g first true a b v L) :
  Calls Try.prog 61 #[.pointer (some ⟨g, 0, none⟩), .agg #[.int .i64 x.1, .int .u32 x.2.1, .int .u16 x.2.2]] w fun e w' => e = .returned (.tuple #[.agg #[.int .i64 0, .int .u32 0, .int .u16 0], .int .i64 10]) ∧ BW w w' := by
 obtain ⟨i, s, p⟩ := x
 obtain ⟨a0, a1, a2⟩ := a
 obtain ⟨b0, b1, b2⟩ := b
 dsimp only at hx ⊢
 have d : decide (i < 0) = true := by simpa using hx
 have BA : BW w (w.alloc (.cells #[.int .i64 i, .int .u32 s, .int .u16 p] 51)) := (BW.refl w).alloc
 have X1 := HpB.new w (.cells #[.int .i64 i, .int .u32 s, .int .u16 p] 51)
 generalize hw1 : w.alloc (.cells #[.int .i64 i, .int .u32 s, .int .u16 p] 51) = w1 at *
 have BB : BW w1 (w1.alloc (.cells #[.int .i64 0, .int .u32 0, .int .u16 0] 51)) := (BW.refl w1).alloc
 have X2 := Lib.hid (HpB.new w1 (.cells #[.int .i64 0, .int .u32 0, .int .u16 0] 51))
 replace X1 := Lib.hid (X1.bw BB)
 have hz := Lib.hid BA.size
 have B2 := Lib.hid (BA.trans BB)
 have H2 := Lib.hid (h.hp.bw B2.out)
 clear h BA BB
 unfold w22 at H2
 dsimp only at H2
 go_enter Try.func61, Try.ntmps61
 go_upto_region 1 with (fail)
 generalize w1.alloc _ = w2 at *
 generalize hgx : w.heap.size = gx at *
 generalize hgy : w1.heap.size = gy at *
 replace hw1 := Lib.hid hw1
 replace hgx := Lib.hid hgx
 replace hgy := Lib.hid hgy
 have x0 := (hp_cell X1.out 0).trans (show _ = some (.int .i64 i) from rfl)
 have z1 := (hp_cell H2.out 1).trans (show _ = some (.bool true) from rfl)
 have X3 := Lib.hid (X2.out.rowS #[.int .i64 0, .int .u32 0, .int .u16 0])
 have B3 := Lib.hid (B2.out.row (show w.heap.size ≤ gy by have h1 := hgx.out; have h2 := hgy.out; have h3 := hz.out; omega) #[.int .i64 0, .int .u32 0, .int .u16 0])
 go_wp2_with (refine swSt swMp rfl rfl rfl rfl X2.out rfl rfl (by kernel_rfl) ?_)
 generalize w2.setRow _ _ = w9 at *
 have q0 := (hp_cell X3.out 0).trans (show _ = some (.int .i64 0) from rfl)
 have q1 := (hp_cell X3.out 1).trans (show _ = some (.int .u32 0) from rfl)
 have q2 := (hp_cell X3.out 2).trans (show _ = some (.int .u16 0) from rfl)
 refine bodyPost_ret (v := .tuple #[.agg #[.int .i64 0, .int .u32 0, .int .u16 0], .int .i64 10]) ?_ rfl ⟨rfl, B3.out⟩
 simp [results, Try.results61, go_sem, q0, q1, q2]
set_option maxRecDepth 100000 in
set_option maxHeartbeats 8000000 in
theorem map22_old (base g : Nat) (first : Int) (a b x : Mpd) (v : Value) (L : List Mpd) (hx : 0 ≤ x.1) (ha : x.1 < a.1) (w : World) (h : W22 w base g first true a b v L) :
  Calls Try.prog 61 #[.pointer (some ⟨g, 0, none⟩), .agg #[.int .i64 x.1, .int .u32 x.2.1, .int .u16 x.2.2]] w fun e w' => e = .returned (.tuple #[.agg #[.int .i64 0, .int .u32 0, .int .u16 0], .int .i64 5]) ∧ BW w w' := by
 obtain ⟨i, s, p⟩ := x
 obtain ⟨a0, a1, a2⟩ := a
 obtain ⟨b0, b1, b2⟩ := b
 dsimp only at hx ha ⊢
 have d : decide (i < 0) = false := by simp; omega
 have d2 : decide (i < a0) = true := by simpa using ha
 have BA : BW w (w.alloc (.cells #[.int .i64 i, .int .u32 s, .int .u16 p] 51)) := (BW.refl w).alloc
 have X1 := HpB.new w (.cells #[.int .i64 i, .int .u32 s, .int .u16 p] 51)
 generalize hw1 : w.alloc (.cells #[.int .i64 i, .int .u32 s, .int .u16 p] 51) = w1 at *
 have BB : BW w1 (w1.alloc (.cells #[.int .i64 0, .int .u32 0, .int .u16 0] 51)) := (BW.refl w1).alloc
 have X2 := Lib.hid (HpB.new w1 (.cells #[.int .i64 0, .int .u32 0, .int .u16 0] 51))
 replace X1 := Lib.hid (X1.bw BB)
 have hz := Lib.hid BA.size
 have B2 := Lib.hid (BA.trans BB)
 have H2 := Lib.hid (h.hp.bw B2.out)
 clear h BA BB
 unfold w22 at H2
 dsimp only at H2
 go_enter Try.func61, Try.ntmps61
 go_upto_region 1 with (fail)
 generalize w1.alloc _ = w2 at *
 generalize hgx : w.heap.size = gx at *
 generalize hgy : w1.heap.size = gy at *
 replace hw1 := Lib.hid hw1
 replace hgx := Lib.hid hgx
 replace hgy := Lib.hid hgy
 have x0 := (hp_cell X1.out 0).trans (show _ = some (.int .i64 i) from rfl)
 have z1 := (hp_cell H2.out 1).trans (show _ = some (.bool true) from rfl)
 have z2 := (hp_cell H2.out 2).trans (show _ = some (.int .i64 a0) from rfl)
 go_upto_region 3 with (fail)
 have m0 : ∀ y : LaterS [] w2, _ := fun y => y.bw.cell x0
 have m2 : ∀ y : LaterS [] w2, _ := fun y => y.bw.cell z2
 refine wp_region_gg [] [] [] (by kernel_rfl) ?_
 refine hoist [] [] (a1 := ?_) 0 rfl (by kernel_rfl) (.inl ⟨rfl, rfl⟩) rfl rfl rfl (fun x K hK => ?_) ?_
 rotate_left
 ·go_big_quiet_op
  exact hK
 refine hoist [] [] (a1 := ?_) 1 rfl (by kernel_rfl) (.inl ⟨rfl, rfl⟩) rfl rfl rfl (fun x K hK => ?_) ?_
 rotate_left
 ·go_big_quiet_op
  exact hK
 refine hoist [] [] (a1 := ?_) 2 rfl (by kernel_rfl) (.inl ⟨rfl, rfl⟩) rfl rfl rfl (fun x K hK => ?_) ?_
 rotate_left
 ·go_big_quiet_op
  exact hK
 refine hoist [] [] (a1 := ?_) 3 rfl (by kernel_rfl) (.inl ⟨rfl, rfl⟩) rfl rfl rfl (fun x K hK => ?_) ?_
 rotate_left
 ·go_big_quiet_op
  exact hK
 refine hoist [] [] (a1 := ?_) 4 rfl (by kernel_rfl) (.inl ⟨rfl, rfl⟩) rfl rfl rfl (fun x K hK => ?_) ?_
 rotate_left
 ·go_big_quiet_op
  exact hK
 refine hoist [] [] (a1 := ?_) 5 rfl (by kernel_rfl) (.inl ⟨rfl, rfl⟩) rfl rfl rfl (fun x K hK => ?_) ?_
 rotate_left
 ·go_big_quiet_op
  exact hK
 refine hoist [] [] (a1 := ?_) 6 rfl (by kernel_rfl) (.inl ⟨rfl, rfl⟩) rfl rfl rfl (fun x K hK => ?_) ?_
 rotate_left
 ·go_big_quiet_op
  exact hK
 refine hoist [] [] (a1 := ?_) 7 rfl (by kernel_rfl) (.inl ⟨rfl, rfl⟩) rfl rfl rfl (fun x K hK => ?_) ?_
 rotate_left
 ·go_big_quiet_op
  exact hK
 refine done (by kernel_rfl) (fun xr => ?_)
 replace B2 := Lib.hid (B2.out.trans xr.bw)
 replace X2 := Lib.hid (X2.out.bw xr.bw)
 clear m0 m2 x0 z1 z2 H2 X1
 generalize xr.now = w3 at *
 have X3 := Lib.hid (X2.out.rowS #[.int .i64 0, .int .u32 0, .int .u16 0])
 have B3 := Lib.hid (B2.out.row (show w.heap.size ≤ gy by have h1 := hgx.out; have h2 := hgy.out; have h3 := hz.out; omega) #[.int .i64 0, .int .u32 0, .int .u16 0])
 go_wp2_with (refine swSt swMp rfl rfl rfl rfl X2.out rfl rfl (by kernel_rfl) ?_)
 generalize w3.setRow _ _ = w9 at *
 have q0 := (hp_cell X3.out 0).trans (show _ = some (.int .i64 0) from rfl)
 have q1 := (hp_cell X3.out 1).trans (show _ = some (.int .u32 0) from rfl)
 have q2 := (hp_cell X3.out 2).trans (show _ = some (.int .u16 0) from rfl)
 refine bodyPost_ret (v := .tuple #[.agg #[.int .i64 0, .int .u32 0, .int .u16 0], .int .i64 5]) ?_ rfl ⟨rfl, B3.out⟩
 simp [results, Try.results61, go_sem, q0, q1, q2]
end Go.Proofs.Ytojedpahaifjgaa
