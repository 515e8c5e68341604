/- srtp: a packet sealed. No condition but the sizes'. -/
import Derived.Test.YtikmhlbpefednaaGreatGS2
import Derived.Test.YtikmhlbpefednaaGreatGRd
import Derived.Test.YtikmhlbpefednaaGreatGRc
import Derived.Test.YtikmhlbpefednaaGreatGPr
namespace Go.Proofs.YtikmhlbpefednaaGreat
open Go.RowKit
theorem hdr_bytes (d : RtpD) (h : mayN d = true) : hdrN (bytesN d) = (12 + 4 * d.others.length + (extN d).length, true) := by
 have hm : d.typ < 128 ∧ d.others.length ≤ 15 ∧ d.extra.length % 4 = 0 ∧ d.extra.length ≤ 1020 ∧ (d.ext = true ∨ (d.extra.length = 0 ∧ d.profile = 0)) := by
  simpa [mayN] using h
 obtain ⟨_, hL, hx4, hx, _⟩ := hm
 have e0 : (bytesN d).getD 0 0 = firstB d := rfl
 have hlen : (bytesN d).length = 12 + (4 * d.others.length + ((extN d).length + (d.payload.length + d.pad))) := by
  simp only [bytesN, List.length_append, headN_len, othN_len, padN_len]
 have e1 : firstB d % 16 = d.others.length := by
  unfold firstB
  split <;> split <;> omega
 unfold hdrN
 dsimp only
 rw [e0, e1]
 cases hext : d.ext with
 | false =>
  have e2 : firstB d / 16 % 2 = 0 := by
   unfold firstB
   rw [hext]
   split <;> simp <;> omega
  have e3 : (extN d).length = 0 := by rw [extN_len, hext]; rfl
  rw [if_neg (by omega), e3, decide_eq_true (by omega)]
  rfl
 | true =>
  have e2 : firstB d / 16 % 2 = 1 := by
   unfold firstB
   rw [hext]
   split <;> simp <;> omega
  have e3 : (extN d).length = 4 + d.extra.length := by rw [extN_len, hext]; rfl
  have e4 : bytesN d = (headN d ++ (othN d.others ++ putB 2 d.profile)) ++ (putB 2 (d.extra.length / 4) ++ (d.extra ++ (d.payload ++ padN d.pad))) := by
   unfold bytesN
   rw [show extN d = putB 2 d.profile ++ (putB 2 (d.extra.length / 4) ++ d.extra) by unfold extN; rw [hext]; rfl]
   simp only [List.append_assoc]
  have e5 : nm (bytesN d) (12 + 4 * d.others.length + 2) 2 = d.extra.length / 4 := by
   rw [e4]
   exact nmAt (by simp only [List.length_append, headN_len, othN_len, putB_len]; omega) (by omega)
  rw [if_pos e2, if_pos (by omega), e5, e3, decide_eq_true (by omega)]
  congr 1
  omega
def okS (d : RtpD) (i : Int) : Prop := mayN d = true ∧ (bytesN d).length ≤ 1190 ∧ 0 ≤ i ∧ i < 281474976710656 ∧ i % 65536 = d.seq
def sealB (K : List Nat) (d : RtpD) (i : Nat) : List Nat := spinN K (hdrN (bytesN d)).1 d.source i (bytesN d) ++ tagN K (spinN K (hdrN (bytesN d)).1 d.source i (bytesN d)) i
inductive SealPost (g : Nat) (K : List Nat) (lim : Int) (used gm : Nat) (M : List (Nat × Nat × Nat)) (d : RtpD) (i : Int) (w : World) (e : Ending) (w' : World) : Prop
 | spent (h : lim ≤ used) (he : e = .returned (.tuple #[.slice none 0 0, .int .i64 7])) (hb : BW w w')
 | no (h : ¬ lim ≤ used) (hk : ¬ okS d i) (he : e = .returned (.tuple #[.slice none 0 0, .int .i64 1])) (hb : BW w w')
 | yes (h : ¬ lim ≤ used) (hk : okS d i) (s : Option Addr) (c : Nat) (he : e = .returned (.tuple #[.slice s (sealB K d i.toNat).length c, .int .i64 0])) (ho : OB w' w.heap.size 5 (.slice s (sealB K d i.toNat).length c) (sealB K d i.toNat).length (sealB K d i.toNat)) (hw : WayV w' g K lim (used + 1) gm M) (ht : Still [g] w w')
theorem sealB_len (K : List Nat) (d : RtpD) (i : Nat) (h : mayN d = true) : (sealB K d i).length = (bytesN d).length + 10 := by
 have h1 := hdrN_ge (bytesN d) (by rw [hdr_bytes d h])
 unfold sealB
 rw [List.length_append, tagN_len, spinN_len K _ _ _ _ h1.2]
set_option maxRecDepth 100000 in
set_option maxHeartbeats 8000000 in
theorem seal_ok (g : Nat) (K : List Nat) (lim : Int) (used gm : Nat) (M : List (Nat × Nat × Nat)) (c : Array Value) (d : RtpD) (i : Int) (hi : -9223372036854775808 ≤ i ∧ i ≤ 9223372036854775807) (hu : used ≤ 1000000) (w : World) (hW : WayV w g K lim used gm M) (hV : RtpV w c d) (wf : RtpWf d) (hpl : d.payload.length ≤ 1000000) :
  Calls Tryz.prog 9 #[.pointer (some ⟨g, 0, none⟩), .agg c, .int .i64 i] w (SealPost g K lim used gm M d i w) := by
 have cS := fun wz (h : BW w wz) => Lib.hid (way_spent g K lim used gm M wz (hW.bw h))
 have cW := fun wz (h : BW w wz) => Lib.hid (Write_any c d wz (hV.bw h) wf hpl)
 have hWW := Lib.hid hW
 have hg := Lib.hid hW.hp.lt
 obtain ⟨so_, co, se, ce, sp, cp, rfl, -, -, -⟩ := hV.open
 simp only [rtpC] at cW ⊢
 have BA : BW w (w.alloc (.cells #[.bool d.marker, .int .u8 (d.typ : Nat), .int .u16 (d.seq : Nat), .int .u32 (d.stamp : Nat), .int .u32 (d.source : Nat), .slice so_ d.others.length co, .bool d.ext, .int .u16 (d.profile : Nat), .slice se d.extra.length ce, .slice sp d.payload.length cp, .int .u8 (d.pad : Nat)] 37)) := (BW.refl w).alloc
 have X1 := Lib.hid (HpB.new w (.cells #[.bool d.marker, .int .u8 (d.typ : Nat), .int .u16 (d.seq : Nat), .int .u32 (d.stamp : Nat), .int .u32 (d.source : Nat), .slice so_ d.others.length co, .bool d.ext, .int .u16 (d.profile : Nat), .slice se d.extra.length ce, .slice sp d.payload.length cp, .int .u8 (d.pad : Nat)] 37))
 have B1 := Lib.hid BA
 clear hW hV
 replace BA := Lib.hid BA
 go_enter Tryz.func9, Tryz.ntmps9
 go_upto_region 1 with (fail)
 generalize (w.alloc _) = w1 at *
 generalize hg0 : w.heap.size = g0 at *
 replace hg0 := Lib.hid hg0
 clear BA
 go_wp2_with fail
 refine Calls.mono (cS w1 B1.out).out ?_
 rintro e w2 ⟨rfl, hb⟩
 have B2 := Lib.hid (B1.out.trans hb)
 have X2 := Lib.hid (X1.out.bw hb)
 clear hb X1 B1 cS
 dsimp only
 by_cases hsp : lim ≤ (used : Int)
 ·rw [decide_eq_true hsp]
  go_wp2_with fail
  go_ret2
  exact .spent hsp rfl B2.out
 rw [decide_eq_false hsp]
 have hsp' := Lib.hid hsp
 clear hsp
 have z0 := hp_cell (X2.out) 0
 have z1 := hp_cell (X2.out) 1
 have z2 := hp_cell (X2.out) 2
 have z3 := hp_cell (X2.out) 3
 have z4 := hp_cell (X2.out) 4
 have z5 := hp_cell (X2.out) 5
 have z6 := hp_cell (X2.out) 6
 have z7 := hp_cell (X2.out) 7
 have z8 := hp_cell (X2.out) 8
 have z9 := hp_cell (X2.out) 9
 have z10 := hp_cell (X2.out) 10
 simp only [List.getElem?_toArray, List.getElem?_cons_zero, List.getElem?_cons_succ] at z0 z1 z2 z3 z4 z5 z6 z7 z8 z9 z10
 go_upto_region 3 with (fail)
 go_wp2_with fail
 refine Calls.mono (cW w2 B2.out).out ?_
 rintro e w3 ⟨hpost, hb⟩
 have B3 := Lib.hid (B2.out.trans hb)
 have X3 := Lib.hid (X2.out.bw hb)
 clear X2 B2 cW
 clear z0 z1 z2 z3 z4 z5 z6 z7 z8 z9 z10
 rcases hpost with ⟨b, v, hR, rfl, O3⟩ | ⟨hR, rfl⟩
 ·obtain ⟨hmay, hb1, rfl⟩ : mayN d = true ∧ (bytesN d).length ≤ 1200 ∧ b = bytesN d := by
   unfold writeN at hR
   split at hR
   ·rename_i h; exact ⟨h.1, h.2, (Option.some.inj hR).symm⟩
   ·cases hR
  obtain ⟨sv, cv, rfl, hcv, hmv⟩ := O3.len
  unfold maxLen at hmv
  have hh := hdr_bytes d hmay
  have hg12 := hdrN_ge (bytesN d) (by rw [hh])
  have hok : Hid (okS d i ↔ ((bytesN d).length ≤ 1190 ∧ 0 ≤ i ∧ i < 281474976710656 ∧ i % 65536 = d.seq)) := ⟨fun h => h.2, fun h => ⟨hmay, h⟩⟩
  have hsl := fun j => Lib.hid (sealB_len K d j hmay)
  have hsB := fun j => Lib.hid (show sealB K d j = spinN K (hdrN (bytesN d)).1 d.source j (bytesN d) ++ tagN K (spinN K (hdrN (bytesN d)).1 d.source j (bytesN d)) j from rfl)
  have hW16 : IntKind.u16.wrap i = i % 65536 := IntKind.wrap_u16 i
  rw [hh] at hg12
  simp only [hh] at hsB
  generalize (12 + 4 * d.others.length + (extN d).length) = hN at *
  have O3' := Lib.hid O3
  clear O3 hR hb
  generalize bytesN d = b at *
  generalize hn : b.length = n at *
  generalize i % 65536 = im at *
  replace hh := Lib.hid hh
  replace hn := Lib.hid hn
  dsimp only
  by_cases h0 : i < 0
  ·have hno : Hid (¬ okS d i) := fun h => by have := hok.out.1 h; omega
   have e1 : decide (i < 0) = true := by simpa using h0
   clear hok hsl hsB h0
   go_upto_region 4 with (fail)
   refine wp_region_gg [] [] [] (by kernel_rfl) ?_
   refine hoist [] [] (a1 := ?_) 0 rfl (by kernel_rfl) (.inl ⟨rfl, rfl⟩) rfl rfl rfl (fun x K hK => ?_) ?_
   rotate_left
   ·go_big_quiet_op
    exact hK
   refine hoist [] [] (a1 := ?_) 1 rfl (by kernel_rfl) (.inl ⟨rfl, rfl⟩) rfl rfl rfl (fun x K hK => ?_) ?_
   rotate_left
   ·go_big_quiet_op
    exact hK
   refine hoist [] [] (a1 := ?_) 2 rfl (by kernel_rfl) (.inl ⟨rfl, rfl⟩) rfl rfl rfl (fun x K hK => ?_) ?_
   rotate_left
   ·go_big_quiet_op
    exact hK
   refine hoist [] [] (a1 := ?_) 3 rfl (by kernel_rfl) (.inl ⟨rfl, rfl⟩) rfl rfl rfl (fun x K hK => ?_) ?_
   rotate_left
   ·go_big_quiet_op
    exact hK
   refine hoist [] [] (a1 := ?_) 4 rfl (by kernel_rfl) (.inl ⟨rfl, rfl⟩) rfl rfl rfl (fun x K hK => ?_) ?_
   rotate_left
   ·go_big_quiet_op
    exact hK
   refine hoist [] [] (a1 := ?_) 5 rfl (by kernel_rfl) (.inl ⟨rfl, rfl⟩) rfl rfl rfl (fun x K hK => ?_) ?_
   rotate_left
   ·go_big_quiet_op
    exact hK
   refine hoist [] [] (a1 := ?_) 6 rfl (by kernel_rfl) (.inl ⟨rfl, rfl⟩) rfl rfl rfl (fun x K hK => ?_) ?_
   rotate_left
   ·go_big_quiet_op
    exact hK
   refine hoist_skip [] [] 7 rfl (by kernel_rfl) (.inl ⟨rfl, rfl⟩) rfl (a1 := ?_) ?_ ?_
   rotate_left
   ·simp only [Act.put, List.setIfInBounds_toArray, List.set_cons_succ, List.set_cons_zero]; rfl
   refine hoist_skip [] [] 8 rfl (by kernel_rfl) (.inl ⟨rfl, rfl⟩) rfl (a1 := ?_) ?_ ?_
   rotate_left
   ·simp only [Act.put, List.setIfInBounds_toArray, List.set_cons_succ, List.set_cons_zero]; rfl
   refine hoist [] [] (a1 := ?_) 9 rfl (by kernel_rfl) (.inl ⟨rfl, rfl⟩) rfl rfl rfl (fun x K hK => ?_) ?_
   rotate_left
   ·go_big_quiet_op
    exact hK
   refine hoist [] [] (a1 := ?_) 10 rfl (by kernel_rfl) (.inl ⟨rfl, rfl⟩) rfl rfl rfl (fun x K hK => ?_) ?_
   rotate_left
   ·go_big_quiet_op
    exact hK
   refine hoist_skip [] [] 11 rfl (by kernel_rfl) (.inl ⟨rfl, rfl⟩) rfl (a1 := ?_) ?_ ?_
   rotate_left
   ·simp only [Act.put, List.setIfInBounds_toArray, List.set_cons_succ, List.set_cons_zero]; rfl
   refine hoist_skip [] [] 12 rfl (by kernel_rfl) (.inl ⟨rfl, rfl⟩) rfl (a1 := ?_) ?_ ?_
   rotate_left
   ·simp only [Act.put, List.setIfInBounds_toArray, List.set_cons_succ, List.set_cons_zero]; rfl
   refine hoist_skip [] [] 13 rfl (by kernel_rfl) (.inl ⟨rfl, rfl⟩) rfl (a1 := ?_) ?_ ?_
   rotate_left
   ·simp only [Act.put, List.setIfInBounds_toArray, List.set_cons_succ, List.set_cons_zero]; rfl
   refine hoist_skip [] [] 14 rfl (by kernel_rfl) (.inl ⟨rfl, rfl⟩) rfl (a1 := ?_) ?_ ?_
   rotate_left
   ·simp only [Act.put, List.setIfInBounds_toArray, List.set_cons_succ, List.set_cons_zero]; rfl
   refine hoist_skip [] [] 15 rfl (by kernel_rfl) (.inl ⟨rfl, rfl⟩) rfl (a1 := ?_) ?_ ?_
   rotate_left
   ·simp only [Act.put, List.setIfInBounds_toArray, List.set_cons_succ, List.set_cons_zero]; rfl
   refine hoist [] [] (a1 := ?_) 16 rfl (by kernel_rfl) (.inl ⟨rfl, rfl⟩) rfl rfl rfl (fun x K hK => ?_) ?_
   rotate_left
   ·go_big_quiet_op
    exact hK
   refine hoist [] [] (a1 := ?_) 17 rfl (by kernel_rfl) (.inl ⟨rfl, rfl⟩) rfl rfl rfl (fun x K hK => ?_) ?_
   rotate_left
   ·go_big_quiet_op
    exact hK
   refine hoist_skip [] [] 18 rfl (by kernel_rfl) (.inl ⟨rfl, rfl⟩) rfl (a1 := ?_) ?_ ?_
   rotate_left
   ·simp only [Act.put, List.setIfInBounds_toArray, List.set_cons_succ, List.set_cons_zero]; rfl
   refine hoist_skip [] [] 19 rfl (by kernel_rfl) (.inl ⟨rfl, rfl⟩) rfl (a1 := ?_) ?_ ?_
   rotate_left
   ·simp only [Act.put, List.setIfInBounds_toArray, List.set_cons_succ, List.set_cons_zero]; rfl
   refine hoist_skip [] [] 20 rfl (by kernel_rfl) (.inl ⟨rfl, rfl⟩) rfl (a1 := ?_) ?_ ?_
   rotate_left
   ·simp only [Act.put, List.setIfInBounds_toArray, List.set_cons_succ, List.set_cons_zero]; rfl
   refine hoist_skip [] [] 21 rfl (by kernel_rfl) (.inl ⟨rfl, rfl⟩) rfl (a1 := ?_) ?_ ?_
   rotate_left
   ·simp only [Act.put, List.setIfInBounds_toArray, List.set_cons_succ, List.set_cons_zero]; rfl
   refine hoist [] [] (a1 := ?_) 22 rfl (by kernel_rfl) (.inl ⟨rfl, rfl⟩) rfl rfl rfl (fun x K hK => ?_) ?_
   rotate_left
   ·go_big_quiet_op
    exact hK
   refine done (by kernel_rfl) (fun xr => ?_)
   have B4 := Lib.hid (B3.out.trans xr.bw)
   try clear l2
   clear B3 X3
   generalize xr.now = w4 at *
   go_wp2_with fail
   go_ret2
   exact .no (by have := hsp'.out; omega) hno.out rfl B4.out
  have e1 : decide (i < 0) = false := by simpa using h0
  by_cases h48 : 281474976710656 ≤ i
  ·have hno : Hid (¬ okS d i) := fun h => by have := hok.out.1 h; omega
   have e2 : decide (281474976710656 ≤ i) = true := by simpa using h48
   clear hok hsl hsB h48
   go_upto_region 4 with (fail)
   refine wp_region_gg [] [] [] (by kernel_rfl) ?_
   refine hoist [] [] (a1 := ?_) 0 rfl (by kernel_rfl) (.inl ⟨rfl, rfl⟩) rfl rfl rfl (fun x K hK => ?_) ?_
   rotate_left
   ·go_big_quiet_op
    exact hK
   refine hoist [] [] (a1 := ?_) 1 rfl (by kernel_rfl) (.inl ⟨rfl, rfl⟩) rfl rfl rfl (fun x K hK => ?_) ?_
   rotate_left
   ·go_big_quiet_op
    exact hK
   refine hoist [] [] (a1 := ?_) 2 rfl (by kernel_rfl) (.inl ⟨rfl, rfl⟩) rfl rfl rfl (fun x K hK => ?_) ?_
   rotate_left
   ·go_big_quiet_op
    exact hK
   refine hoist [] [] (a1 := ?_) 3 rfl (by kernel_rfl) (.inl ⟨rfl, rfl⟩) rfl rfl rfl (fun x K hK => ?_) ?_
   rotate_left
   ·go_big_quiet_op
    exact hK
   refine hoist [] [] (a1 := ?_) 4 rfl (by kernel_rfl) (.inl ⟨rfl, rfl⟩) rfl rfl rfl (fun x K hK => ?_) ?_
   rotate_left
   ·go_big_quiet_op
    exact hK
   refine hoist [] [] (a1 := ?_) 5 rfl (by kernel_rfl) (.inl ⟨rfl, rfl⟩) rfl rfl rfl (fun x K hK => ?_) ?_
   rotate_left
   ·go_big_quiet_op
    exact hK
   refine hoist [] [] (a1 := ?_) 6 rfl (by kernel_rfl) (.inl ⟨rfl, rfl⟩) rfl rfl rfl (fun x K hK => ?_) ?_
   rotate_left
   ·go_big_quiet_op
    exact hK
   refine hoist [] [] (a1 := ?_) 7 rfl (by kernel_rfl) (.inl ⟨rfl, rfl⟩) rfl rfl rfl (fun x K hK => ?_) ?_
   rotate_left
   ·go_big_quiet_op
    exact hK
   refine hoist [] [] (a1 := ?_) 8 rfl (by kernel_rfl) (.inl ⟨rfl, rfl⟩) rfl rfl rfl (fun x K hK => ?_) ?_
   rotate_left
   ·go_big_quiet_op
    exact hK
   refine hoist [] [] (a1 := ?_) 9 rfl (by kernel_rfl) (.inl ⟨rfl, rfl⟩) rfl rfl rfl (fun x K hK => ?_) ?_
   rotate_left
   ·go_big_quiet_op
    exact hK
   refine hoist [] [] (a1 := ?_) 10 rfl (by kernel_rfl) (.inl ⟨rfl, rfl⟩) rfl rfl rfl (fun x K hK => ?_) ?_
   rotate_left
   ·go_big_quiet_op
    exact hK
   refine hoist_skip [] [] 11 rfl (by kernel_rfl) (.inl ⟨rfl, rfl⟩) rfl (a1 := ?_) ?_ ?_
   rotate_left
   ·simp only [Act.put, List.setIfInBounds_toArray, List.set_cons_succ, List.set_cons_zero]; rfl
   refine hoist_skip [] [] 12 rfl (by kernel_rfl) (.inl ⟨rfl, rfl⟩) rfl (a1 := ?_) ?_ ?_
   rotate_left
   ·simp only [Act.put, List.setIfInBounds_toArray, List.set_cons_succ, List.set_cons_zero]; rfl
   refine hoist_skip [] [] 13 rfl (by kernel_rfl) (.inl ⟨rfl, rfl⟩) rfl (a1 := ?_) ?_ ?_
   rotate_left
   ·simp only [Act.put, List.setIfInBounds_toArray, List.set_cons_succ, List.set_cons_zero]; rfl
   refine hoist_skip [] [] 14 rfl (by kernel_rfl) (.inl ⟨rfl, rfl⟩) rfl (a1 := ?_) ?_ ?_
   rotate_left
   ·simp only [Act.put, List.setIfInBounds_toArray, List.set_cons_succ, List.set_cons_zero]; rfl
   refine hoist_skip [] [] 15 rfl (by kernel_rfl) (.inl ⟨rfl, rfl⟩) rfl (a1 := ?_) ?_ ?_
   rotate_left
   ·simp only [Act.put, List.setIfInBounds_toArray, List.set_cons_succ, List.set_cons_zero]; rfl
   refine hoist [] [] (a1 := ?_) 16 rfl (by kernel_rfl) (.inl ⟨rfl, rfl⟩) rfl rfl rfl (fun x K hK => ?_) ?_
   rotate_left
   ·go_big_quiet_op
    exact hK
   refine hoist [] [] (a1 := ?_) 17 rfl (by kernel_rfl) (.inl ⟨rfl, rfl⟩) rfl rfl rfl (fun x K hK => ?_) ?_
   rotate_left
   ·go_big_quiet_op
    exact hK
   refine hoist_skip [] [] 18 rfl (by kernel_rfl) (.inl ⟨rfl, rfl⟩) rfl (a1 := ?_) ?_ ?_
   rotate_left
   ·simp only [Act.put, List.setIfInBounds_toArray, List.set_cons_succ, List.set_cons_zero]; rfl
   refine hoist_skip [] [] 19 rfl (by kernel_rfl) (.inl ⟨rfl, rfl⟩) rfl (a1 := ?_) ?_ ?_
   rotate_left
   ·simp only [Act.put, List.setIfInBounds_toArray, List.set_cons_succ, List.set_cons_zero]; rfl
   refine hoist_skip [] [] 20 rfl (by kernel_rfl) (.inl ⟨rfl, rfl⟩) rfl (a1 := ?_) ?_ ?_
   rotate_left
   ·simp only [Act.put, List.setIfInBounds_toArray, List.set_cons_succ, List.set_cons_zero]; rfl
   refine hoist_skip [] [] 21 rfl (by kernel_rfl) (.inl ⟨rfl, rfl⟩) rfl (a1 := ?_) ?_ ?_
   rotate_left
   ·simp only [Act.put, List.setIfInBounds_toArray, List.set_cons_succ, List.set_cons_zero]; rfl
   refine hoist [] [] (a1 := ?_) 22 rfl (by kernel_rfl) (.inl ⟨rfl, rfl⟩) rfl rfl rfl (fun x K hK => ?_) ?_
   rotate_left
   ·go_big_quiet_op
    exact hK
   refine done (by kernel_rfl) (fun xr => ?_)
   have B4 := Lib.hid (B3.out.trans xr.bw)
   try clear l2
   clear B3 X3
   generalize xr.now = w4 at *
   go_wp2_with fail
   go_ret2
   exact .no (by have := hsp'.out; omega) hno.out rfl B4.out
  have e2 : decide (281474976710656 ≤ i) = false := by simpa using h48
  have z2 := (hp_cell X3.out 2).trans (show _ = some (.int .u16 (d.seq : Nat)) from rfl)
  have l2 : ∀ y : LaterS [] w3, y.now.cell? _ = _ := fun y => y.bw.cell z2
  clear z2
  by_cases hsq : im = (d.seq : Int)
  ·have e3 : (im != (d.seq : Int)) = false := by simpa using hsq
   by_cases hln : 1190 < n
   ·have hno : Hid (¬ okS d i) := fun h => by have := hok.out.1 h; omega
    have e4 : decide ((1200 : Int) < (n : Int) + 10) = true := by simp; omega
    clear hok hsl hsB hln hsq
    go_upto_region 4 with (fail)
    refine wp_region_gg [] [] [] (by kernel_rfl) ?_
    refine hoist [] [] (a1 := ?_) 0 rfl (by kernel_rfl) (.inl ⟨rfl, rfl⟩) rfl rfl rfl (fun x K hK => ?_) ?_
    rotate_left
    ·go_big_quiet_op
     exact hK
    refine hoist [] [] (a1 := ?_) 1 rfl (by kernel_rfl) (.inl ⟨rfl, rfl⟩) rfl rfl rfl (fun x K hK => ?_) ?_
    rotate_left
    ·go_big_quiet_op
     exact hK
    refine hoist [] [] (a1 := ?_) 2 rfl (by kernel_rfl) (.inl ⟨rfl, rfl⟩) rfl rfl rfl (fun x K hK => ?_) ?_
    rotate_left
    ·go_big_quiet_op
     exact hK
    refine hoist [] [] (a1 := ?_) 3 rfl (by kernel_rfl) (.inl ⟨rfl, rfl⟩) rfl rfl rfl (fun x K hK => ?_) ?_
    rotate_left
    ·go_big_quiet_op
     exact hK
    refine hoist [] [] (a1 := ?_) 4 rfl (by kernel_rfl) (.inl ⟨rfl, rfl⟩) rfl rfl rfl (fun x K hK => ?_) ?_
    rotate_left
    ·go_big_quiet_op
     exact hK
    refine hoist [] [] (a1 := ?_) 5 rfl (by kernel_rfl) (.inl ⟨rfl, rfl⟩) rfl rfl rfl (fun x K hK => ?_) ?_
    rotate_left
    ·go_big_quiet_op
     exact hK
    refine hoist [] [] (a1 := ?_) 6 rfl (by kernel_rfl) (.inl ⟨rfl, rfl⟩) rfl rfl rfl (fun x K hK => ?_) ?_
    rotate_left
    ·go_big_quiet_op
     exact hK
    refine hoist [] [] (a1 := ?_) 7 rfl (by kernel_rfl) (.inl ⟨rfl, rfl⟩) rfl rfl rfl (fun x K hK => ?_) ?_
    rotate_left
    ·go_big_quiet_op
     exact hK
    refine hoist [] [] (a1 := ?_) 8 rfl (by kernel_rfl) (.inl ⟨rfl, rfl⟩) rfl rfl rfl (fun x K hK => ?_) ?_
    rotate_left
    ·go_big_quiet_op
     exact hK
    refine hoist [] [] (a1 := ?_) 9 rfl (by kernel_rfl) (.inl ⟨rfl, rfl⟩) rfl rfl rfl (fun x K hK => ?_) ?_
    rotate_left
    ·go_big_quiet_op
     exact hK
    refine hoist [] [] (a1 := ?_) 10 rfl (by kernel_rfl) (.inl ⟨rfl, rfl⟩) rfl rfl rfl (fun x K hK => ?_) ?_
    rotate_left
    ·go_big_quiet_op
     exact hK
    refine hoist [] [] (a1 := ?_) 11 rfl (by kernel_rfl) (.inl ⟨rfl, rfl⟩) rfl rfl rfl (fun x K hK => ?_) ?_
    rotate_left
    ·go_big_quiet_op
     exact hK
    refine hoist_call [] [] (a1 := ?_) 12 rfl (by kernel_rfl) (.inl ⟨rfl, rfl⟩) rfl rfl rfl (fun x K hK => ?_) ?_
    rotate_left
    ·go_big_quiet_op
     apply Exists.intro
     refine ⟨fun y => ?_, ?_⟩
     ·exact ((seq_ok i y.now).mono fun _ _ h => ⟨by rw [hW16] at h; exact h.1, y, h.2.symm⟩)
     ·exact hK
    refine hoist [] [] (a1 := ?_) 13 rfl (by kernel_rfl) (.inl ⟨rfl, rfl⟩) rfl rfl rfl (fun x K hK => ?_) ?_
    rotate_left
    ·go_big_quiet_op
     exact hK
    refine hoist [] [] (a1 := ?_) 14 rfl (by kernel_rfl) (.inl ⟨rfl, rfl⟩) rfl rfl rfl (fun x K hK => ?_) ?_
    rotate_left
    ·go_big_quiet_op
     exact hK
    refine hoist [] [] (a1 := ?_) 15 rfl (by kernel_rfl) (.inl ⟨rfl, rfl⟩) rfl rfl rfl (fun x K hK => ?_) ?_
    rotate_left
    ·go_big_quiet_op
     exact hK
    refine hoist [] [] (a1 := ?_) 16 rfl (by kernel_rfl) (.inl ⟨rfl, rfl⟩) rfl rfl rfl (fun x K hK => ?_) ?_
    rotate_left
    ·go_big_quiet_op
     exact hK
    refine hoist [] [] (a1 := ?_) 17 rfl (by kernel_rfl) (.inl ⟨rfl, rfl⟩) rfl rfl rfl (fun x K hK => ?_) ?_
    rotate_left
    ·go_big_quiet_op
     exact hK
    refine hoist [] [] (a1 := ?_) 18 rfl (by kernel_rfl) (.inl ⟨rfl, rfl⟩) rfl rfl rfl (fun x K hK => ?_) ?_
    rotate_left
    ·go_big_quiet_op
     exact hK
    refine hoist [] [] (a1 := ?_) 19 rfl (by kernel_rfl) (.inl ⟨rfl, rfl⟩) rfl rfl rfl (fun x K hK => ?_) ?_
    rotate_left
    ·go_big_quiet_op
     exact hK
    refine hoist [] [] (a1 := ?_) 20 rfl (by kernel_rfl) (.inl ⟨rfl, rfl⟩) rfl rfl rfl (fun x K hK => ?_) ?_
    rotate_left
    ·go_big_quiet_op
     exact hK
    refine hoist [] [] (a1 := ?_) 21 rfl (by kernel_rfl) (.inl ⟨rfl, rfl⟩) rfl rfl rfl (fun x K hK => ?_) ?_
    rotate_left
    ·go_big_quiet_op
     exact hK
    refine hoist [] [] (a1 := ?_) 22 rfl (by kernel_rfl) (.inl ⟨rfl, rfl⟩) rfl rfl rfl (fun x K hK => ?_) ?_
    rotate_left
    ·go_big_quiet_op
     exact hK
    refine done (by kernel_rfl) (fun xr => ?_)
    have B4 := Lib.hid (B3.out.trans xr.bw)
    try clear l2
    clear B3 X3
    generalize xr.now = w4 at *
    go_wp2_with fail
    go_ret2
    exact .no (by have := hsp'.out; omega) hno.out rfl B4.out
   ·have e4 : decide ((1200 : Int) < (n : Int) + 10) = false := by simp; omega
    have hyes : Hid (okS d i) := hok.out.2 (by omega)
    clear hok hsq
    go_upto_region 4 with (fail)
    refine wp_region_gg [] [] [] (by kernel_rfl) ?_
    refine hoist [] [] (a1 := ?_) 0 rfl (by kernel_rfl) (.inl ⟨rfl, rfl⟩) rfl rfl rfl (fun x K hK => ?_) ?_
    rotate_left
    ·go_big_quiet_op
     exact hK
    refine hoist [] [] (a1 := ?_) 1 rfl (by kernel_rfl) (.inl ⟨rfl, rfl⟩) rfl rfl rfl (fun x K hK => ?_) ?_
    rotate_left
    ·go_big_quiet_op
     exact hK
    refine hoist [] [] (a1 := ?_) 2 rfl (by kernel_rfl) (.inl ⟨rfl, rfl⟩) rfl rfl rfl (fun x K hK => ?_) ?_
    rotate_left
    ·go_big_quiet_op
     exact hK
    refine hoist [] [] (a1 := ?_) 3 rfl (by kernel_rfl) (.inl ⟨rfl, rfl⟩) rfl rfl rfl (fun x K hK => ?_) ?_
    rotate_left
    ·go_big_quiet_op
     exact hK
    refine hoist [] [] (a1 := ?_) 4 rfl (by kernel_rfl) (.inl ⟨rfl, rfl⟩) rfl rfl rfl (fun x K hK => ?_) ?_
    rotate_left
    ·go_big_quiet_op
     exact hK
    refine hoist [] [] (a1 := ?_) 5 rfl (by kernel_rfl) (.inl ⟨rfl, rfl⟩) rfl rfl rfl (fun x K hK => ?_) ?_
    rotate_left
    ·go_big_quiet_op
     exact hK
    refine hoist [] [] (a1 := ?_) 6 rfl (by kernel_rfl) (.inl ⟨rfl, rfl⟩) rfl rfl rfl (fun x K hK => ?_) ?_
    rotate_left
    ·go_big_quiet_op
     exact hK
    refine hoist [] [] (a1 := ?_) 7 rfl (by kernel_rfl) (.inl ⟨rfl, rfl⟩) rfl rfl rfl (fun x K hK => ?_) ?_
    rotate_left
    ·go_big_quiet_op
     exact hK
    refine hoist [] [] (a1 := ?_) 8 rfl (by kernel_rfl) (.inl ⟨rfl, rfl⟩) rfl rfl rfl (fun x K hK => ?_) ?_
    rotate_left
    ·go_big_quiet_op
     exact hK
    refine hoist [] [] (a1 := ?_) 9 rfl (by kernel_rfl) (.inl ⟨rfl, rfl⟩) rfl rfl rfl (fun x K hK => ?_) ?_
    rotate_left
    ·go_big_quiet_op
     exact hK
    refine hoist [] [] (a1 := ?_) 10 rfl (by kernel_rfl) (.inl ⟨rfl, rfl⟩) rfl rfl rfl (fun x K hK => ?_) ?_
    rotate_left
    ·go_big_quiet_op
     exact hK
    refine hoist [] [] (a1 := ?_) 11 rfl (by kernel_rfl) (.inl ⟨rfl, rfl⟩) rfl rfl rfl (fun x K hK => ?_) ?_
    rotate_left
    ·go_big_quiet_op
     exact hK
    refine hoist_call [] [] (a1 := ?_) 12 rfl (by kernel_rfl) (.inl ⟨rfl, rfl⟩) rfl rfl rfl (fun x K hK => ?_) ?_
    rotate_left
    ·go_big_quiet_op
     apply Exists.intro
     refine ⟨fun y => ?_, ?_⟩
     ·exact ((seq_ok i y.now).mono fun _ _ h => ⟨by rw [hW16] at h; exact h.1, y, h.2.symm⟩)
     ·exact hK
    refine hoist [] [] (a1 := ?_) 13 rfl (by kernel_rfl) (.inl ⟨rfl, rfl⟩) rfl rfl rfl (fun x K hK => ?_) ?_
    rotate_left
    ·go_big_quiet_op
     exact hK
    refine hoist [] [] (a1 := ?_) 14 rfl (by kernel_rfl) (.inl ⟨rfl, rfl⟩) rfl rfl rfl (fun x K hK => ?_) ?_
    rotate_left
    ·go_big_quiet_op
     exact hK
    refine hoist [] [] (a1 := ?_) 15 rfl (by kernel_rfl) (.inl ⟨rfl, rfl⟩) rfl rfl rfl (fun x K hK => ?_) ?_
    rotate_left
    ·go_big_quiet_op
     exact hK
    refine hoist [] [] (a1 := ?_) 16 rfl (by kernel_rfl) (.inl ⟨rfl, rfl⟩) rfl rfl rfl (fun x K hK => ?_) ?_
    rotate_left
    ·go_big_quiet_op
     exact hK
    refine hoist [] [] (a1 := ?_) 17 rfl (by kernel_rfl) (.inl ⟨rfl, rfl⟩) rfl rfl rfl (fun x K hK => ?_) ?_
    rotate_left
    ·go_big_quiet_op
     exact hK
    refine hoist [] [] (a1 := ?_) 18 rfl (by kernel_rfl) (.inl ⟨rfl, rfl⟩) rfl rfl rfl (fun x K hK => ?_) ?_
    rotate_left
    ·go_big_quiet_op
     exact hK
    refine hoist [] [] (a1 := ?_) 19 rfl (by kernel_rfl) (.inl ⟨rfl, rfl⟩) rfl rfl rfl (fun x K hK => ?_) ?_
    rotate_left
    ·go_big_quiet_op
     exact hK
    refine hoist [] [] (a1 := ?_) 20 rfl (by kernel_rfl) (.inl ⟨rfl, rfl⟩) rfl rfl rfl (fun x K hK => ?_) ?_
    rotate_left
    ·go_big_quiet_op
     exact hK
    refine hoist [] [] (a1 := ?_) 21 rfl (by kernel_rfl) (.inl ⟨rfl, rfl⟩) rfl rfl rfl (fun x K hK => ?_) ?_
    rotate_left
    ·go_big_quiet_op
     exact hK
    refine hoist [] [] (a1 := ?_) 22 rfl (by kernel_rfl) (.inl ⟨rfl, rfl⟩) rfl rfl rfl (fun x K hK => ?_) ?_
    rotate_left
    ·go_big_quiet_op
     exact hK
    refine done (by kernel_rfl) (fun xr => ?_)
    have B4 := Lib.hid (B3.out.trans xr.bw)
    have X4 := Lib.hid (X3.out.bw xr.bw)
    have O4 := Lib.hid (O3'.out.bw xr.bw)
    clear l2 B3 X3 O3'
    generalize xr.now = w4 at *
    obtain ⟨ii, rfl⟩ : ∃ ii : Nat, i = (ii : Nat) := ⟨i.toNat, by omega⟩
    have hii : ii ≤ 281474976710656 := by omega
    have hsl' := hsl ii
    have hsB' := hsB ii
    clear hsl hsB hW16 e1 e2 e3 e4 h0 h48
    have W4 := Lib.hid (hWW.out.bw B4.out)
    have hgm := Lib.hid hWW.out.mp.lt
    have ch := header_ok (.slice sv n cv) n b (by omega) (by omega) w4 O4.out.sb
    rw [hh.out] at ch
    have ct := wayturn_ok g K lim used gm M sv n cv b hN d.source ii (by omega) wf.source hii (by omega) w4 W4.out O4.out.sb
    have z4 := (hp_cell X4.out 4).trans (show _ = some (.int .u32 (d.source : Nat)) from rfl)
    have hszt := spinN_len K hN d.source ii b (by rw [hn.out]; omega)
    rw [hn.out] at hszt
    generalize spinN K hN d.source ii b = sp at *
    replace ch := Lib.hid ch
    replace ct := Lib.hid ct
    replace hsl' := Lib.hid hsl'
    replace hsB' := Lib.hid hsB'
    replace hszt := Lib.hid hszt
    go_upto_region 6 with (fail)
    go_wp2_with fail
    refine Calls.mono ch.out ?_
    rintro e w' ⟨rfl, rfl⟩
    dsimp only
    go_upto_region 7 with (fail)
    go_wp2_with fail
    refine Calls.mono ct.out ?_
    rintro e w5 ⟨s5, c5, rfl, O5, hb⟩
    obtain ⟨_, _, he, hc5, hm5⟩ := O5.len
    cases he
    unfold maxLen at hm5
    have W5 := Lib.hid (W4.out.bw hb)
    have B5 := Lib.hid (B4.out.trans hb)
    have h45 := Lib.hid hb.size
    replace O5 := Lib.hid O5
    clear ch ct z4 hb X4 O4
    dsimp only
    have z5 := W5.out.used
    have f5 := hp_frz W5.out.hp 51
    have W6 := Lib.hid W5.out.use
    have T6 := still_sc w5 g 51 (.int .i64 ((used + 1 : Nat) : Int))
    have hgw := hg.out
    have O6 := Lib.hid (O5.out.still T6 (fun k hk hm => by obtain rfl : k = g := (by simpa using hm); have := O5.out.ge' k hk; have := B4.out.size; have := hg0.out; omega))
    have R6 := Lib.hid ((B5.out.still [g]).trans T6)
    have h46 := Lib.hid (Nat.le_trans h45.out T6.size)
    clear W5 B5 O5 W4 h45 T6
    push_cast at W6 O6 R6 h46
    go_upto_region 9 with (fail)
    clear z5 f5
    generalize (w5.setCell _ _) = w6 at *
    have cg := Lib.hid (waytag_ok g K lim (used + 1) gm M s5 n c5 sp ii hii (by omega) w6 W6.out O6.out.sb)
    go_wp2_with fail
    refine Calls.mono cg.out ?_
    rintro e w7 ⟨s7, c7, rfl, O7, hb⟩
    have W7 := Lib.hid (W6.out.bw hb)
    have R7 := Lib.hid (R6.out.trans (hb.still [g]))
    have O8 := Lib.hid (O6.out.bw hb)
    have h47 := Lib.hid (Nat.le_trans h46.out hb.size)
    replace O7 := Lib.hid O7
    clear cg hb W6 R6 O6 h46
    dsimp only
    go_wp2_with (at_builtin; go_must (refine wpList_apOB rfl _ _ rfl w4.heap.size _ _ _ rfl O8.out _ rfl _ _ O7.out.sb (by omega) h47.out ?_; intro s9 c9 w9 hc9 hm9 O9 hT hb9 hG; unfold maxLen at hm9; replace hG := Lib.hid hG; replace hT := Lib.hid hT; replace O9 := Lib.hid O9; clear hb9))
    have hown := fun k (hk : k ∈ (Value.slice s5 n c5).ownBlock.toList) => Nat.le_trans B4.out.size (O8.out.ge' k (by simpa using hk))
    have W9 := Lib.hid (W7.out.still hT.out (fun hm => by have := hown g hm; have := hg.out; have := hg0.out; omega) (fun hm => by have := hown gm hm; have := hgm.out; have := hg0.out; omega))
    have R9 := Lib.hid (R7.out.own hT.out (fun k hk => by have := hown k hk; omega))
    go_ret2
    rw [← hsB'.out] at O9
    have hl9 := hsl'.out
    refine .yes (by have := hsp'.out; omega) hyes.out s9 c9 ?_ ?_ (by simpa using W9.out) R9.out
    ·rw [Int.toNat_natCast, hl9]
     rfl
    ·rw [Int.toNat_natCast, hl9]
     exact O9.out.up (by have := B4.out.size; omega)
  ·have hno : Hid (¬ okS d i) := fun h => by have := hok.out.1 h; omega
   have e3 : (im != (d.seq : Int)) = true := by simpa using hsq
   clear hok hsl hsB hsq
   go_upto_region 4 with (fail)
   refine wp_region_gg [] [] [] (by kernel_rfl) ?_
   refine hoist [] [] (a1 := ?_) 0 rfl (by kernel_rfl) (.inl ⟨rfl, rfl⟩) rfl rfl rfl (fun x K hK => ?_) ?_
   rotate_left
   ·go_big_quiet_op
    exact hK
   refine hoist [] [] (a1 := ?_) 1 rfl (by kernel_rfl) (.inl ⟨rfl, rfl⟩) rfl rfl rfl (fun x K hK => ?_) ?_
   rotate_left
   ·go_big_quiet_op
    exact hK
   refine hoist [] [] (a1 := ?_) 2 rfl (by kernel_rfl) (.inl ⟨rfl, rfl⟩) rfl rfl rfl (fun x K hK => ?_) ?_
   rotate_left
   ·go_big_quiet_op
    exact hK
   refine hoist [] [] (a1 := ?_) 3 rfl (by kernel_rfl) (.inl ⟨rfl, rfl⟩) rfl rfl rfl (fun x K hK => ?_) ?_
   rotate_left
   ·go_big_quiet_op
    exact hK
   refine hoist [] [] (a1 := ?_) 4 rfl (by kernel_rfl) (.inl ⟨rfl, rfl⟩) rfl rfl rfl (fun x K hK => ?_) ?_
   rotate_left
   ·go_big_quiet_op
    exact hK
   refine hoist [] [] (a1 := ?_) 5 rfl (by kernel_rfl) (.inl ⟨rfl, rfl⟩) rfl rfl rfl (fun x K hK => ?_) ?_
   rotate_left
   ·go_big_quiet_op
    exact hK
   refine hoist [] [] (a1 := ?_) 6 rfl (by kernel_rfl) (.inl ⟨rfl, rfl⟩) rfl rfl rfl (fun x K hK => ?_) ?_
   rotate_left
   ·go_big_quiet_op
    exact hK
   refine hoist [] [] (a1 := ?_) 7 rfl (by kernel_rfl) (.inl ⟨rfl, rfl⟩) rfl rfl rfl (fun x K hK => ?_) ?_
   rotate_left
   ·go_big_quiet_op
    exact hK
   refine hoist [] [] (a1 := ?_) 8 rfl (by kernel_rfl) (.inl ⟨rfl, rfl⟩) rfl rfl rfl (fun x K hK => ?_) ?_
   rotate_left
   ·go_big_quiet_op
    exact hK
   refine hoist [] [] (a1 := ?_) 9 rfl (by kernel_rfl) (.inl ⟨rfl, rfl⟩) rfl rfl rfl (fun x K hK => ?_) ?_
   rotate_left
   ·go_big_quiet_op
    exact hK
   refine hoist [] [] (a1 := ?_) 10 rfl (by kernel_rfl) (.inl ⟨rfl, rfl⟩) rfl rfl rfl (fun x K hK => ?_) ?_
   rotate_left
   ·go_big_quiet_op
    exact hK
   refine hoist [] [] (a1 := ?_) 11 rfl (by kernel_rfl) (.inl ⟨rfl, rfl⟩) rfl rfl rfl (fun x K hK => ?_) ?_
   rotate_left
   ·go_big_quiet_op
    exact hK
   refine hoist_call [] [] (a1 := ?_) 12 rfl (by kernel_rfl) (.inl ⟨rfl, rfl⟩) rfl rfl rfl (fun x K hK => ?_) ?_
   rotate_left
   ·go_big_quiet_op
    apply Exists.intro
    refine ⟨fun y => ?_, ?_⟩
    ·exact ((seq_ok i y.now).mono fun _ _ h => ⟨by rw [hW16] at h; exact h.1, y, h.2.symm⟩)
    ·exact hK
   refine hoist [] [] (a1 := ?_) 13 rfl (by kernel_rfl) (.inl ⟨rfl, rfl⟩) rfl rfl rfl (fun x K hK => ?_) ?_
   rotate_left
   ·go_big_quiet_op
    exact hK
   refine hoist [] [] (a1 := ?_) 14 rfl (by kernel_rfl) (.inl ⟨rfl, rfl⟩) rfl rfl rfl (fun x K hK => ?_) ?_
   rotate_left
   ·go_big_quiet_op
    exact hK
   refine hoist [] [] (a1 := ?_) 15 rfl (by kernel_rfl) (.inl ⟨rfl, rfl⟩) rfl rfl rfl (fun x K hK => ?_) ?_
   rotate_left
   ·go_big_quiet_op
    exact hK
   refine hoist [] [] (a1 := ?_) 16 rfl (by kernel_rfl) (.inl ⟨rfl, rfl⟩) rfl rfl rfl (fun x K hK => ?_) ?_
   rotate_left
   ·go_big_quiet_op
    exact hK
   refine hoist [] [] (a1 := ?_) 17 rfl (by kernel_rfl) (.inl ⟨rfl, rfl⟩) rfl rfl rfl (fun x K hK => ?_) ?_
   rotate_left
   ·go_big_quiet_op
    exact hK
   refine hoist_skip [] [] 18 rfl (by kernel_rfl) (.inl ⟨rfl, rfl⟩) rfl (a1 := ?_) ?_ ?_
   rotate_left
   ·simp only [Act.put, List.setIfInBounds_toArray, List.set_cons_succ, List.set_cons_zero]; rfl
   refine hoist_skip [] [] 19 rfl (by kernel_rfl) (.inl ⟨rfl, rfl⟩) rfl (a1 := ?_) ?_ ?_
   rotate_left
   ·simp only [Act.put, List.setIfInBounds_toArray, List.set_cons_succ, List.set_cons_zero]; rfl
   refine hoist_skip [] [] 20 rfl (by kernel_rfl) (.inl ⟨rfl, rfl⟩) rfl (a1 := ?_) ?_ ?_
   rotate_left
   ·simp only [Act.put, List.setIfInBounds_toArray, List.set_cons_succ, List.set_cons_zero]; rfl
   refine hoist_skip [] [] 21 rfl (by kernel_rfl) (.inl ⟨rfl, rfl⟩) rfl (a1 := ?_) ?_ ?_
   rotate_left
   ·simp only [Act.put, List.setIfInBounds_toArray, List.set_cons_succ, List.set_cons_zero]; rfl
   refine hoist [] [] (a1 := ?_) 22 rfl (by kernel_rfl) (.inl ⟨rfl, rfl⟩) rfl rfl rfl (fun x K hK => ?_) ?_
   rotate_left
   ·go_big_quiet_op
    exact hK
   refine done (by kernel_rfl) (fun xr => ?_)
   have B4 := Lib.hid (B3.out.trans xr.bw)
   try clear l2
   clear B3 X3
   generalize xr.now = w4 at *
   go_wp2_with fail
   go_ret2
   exact .no (by have := hsp'.out; omega) hno.out rfl B4.out
 ·have hno : Hid (¬ okS d i) := fun h => by
   unfold writeN at hR
   rw [if_pos ⟨h.1, by have := h.2.1; omega⟩] at hR
   cases hR
  clear hb hR
  dsimp only
  go_upto_region 4 with (fail)
  refine wp_region_gg [] [] [] (by kernel_rfl) ?_
  refine hoist [] [] (a1 := ?_) 0 rfl (by kernel_rfl) (.inl ⟨rfl, rfl⟩) rfl rfl rfl (fun x K hK => ?_) ?_
  rotate_left
  ·go_big_quiet_op
   exact hK
  refine hoist [] [] (a1 := ?_) 1 rfl (by kernel_rfl) (.inl ⟨rfl, rfl⟩) rfl rfl rfl (fun x K hK => ?_) ?_
  rotate_left
  ·go_big_quiet_op
   exact hK
  refine hoist [] [] (a1 := ?_) 2 rfl (by kernel_rfl) (.inl ⟨rfl, rfl⟩) rfl rfl rfl (fun x K hK => ?_) ?_
  rotate_left
  ·go_big_quiet_op
   exact hK
  refine hoist_skip [] [] 3 rfl (by kernel_rfl) (.inl ⟨rfl, rfl⟩) rfl (a1 := ?_) ?_ ?_
  rotate_left
  ·simp only [Act.put, List.setIfInBounds_toArray, List.set_cons_succ, List.set_cons_zero]; rfl
  refine hoist_skip [] [] 4 rfl (by kernel_rfl) (.inl ⟨rfl, rfl⟩) rfl (a1 := ?_) ?_ ?_
  rotate_left
  ·simp only [Act.put, List.setIfInBounds_toArray, List.set_cons_succ, List.set_cons_zero]; rfl
  refine hoist [] [] (a1 := ?_) 5 rfl (by kernel_rfl) (.inl ⟨rfl, rfl⟩) rfl rfl rfl (fun x K hK => ?_) ?_
  rotate_left
  ·go_big_quiet_op
   exact hK
  refine hoist [] [] (a1 := ?_) 6 rfl (by kernel_rfl) (.inl ⟨rfl, rfl⟩) rfl rfl rfl (fun x K hK => ?_) ?_
  rotate_left
  ·go_big_quiet_op
   exact hK
  refine hoist_skip [] [] 7 rfl (by kernel_rfl) (.inl ⟨rfl, rfl⟩) rfl (a1 := ?_) ?_ ?_
  rotate_left
  ·simp only [Act.put, List.setIfInBounds_toArray, List.set_cons_succ, List.set_cons_zero]; rfl
  refine hoist_skip [] [] 8 rfl (by kernel_rfl) (.inl ⟨rfl, rfl⟩) rfl (a1 := ?_) ?_ ?_
  rotate_left
  ·simp only [Act.put, List.setIfInBounds_toArray, List.set_cons_succ, List.set_cons_zero]; rfl
  refine hoist [] [] (a1 := ?_) 9 rfl (by kernel_rfl) (.inl ⟨rfl, rfl⟩) rfl rfl rfl (fun x K hK => ?_) ?_
  rotate_left
  ·go_big_quiet_op
   exact hK
  refine hoist [] [] (a1 := ?_) 10 rfl (by kernel_rfl) (.inl ⟨rfl, rfl⟩) rfl rfl rfl (fun x K hK => ?_) ?_
  rotate_left
  ·go_big_quiet_op
   exact hK
  refine hoist_skip [] [] 11 rfl (by kernel_rfl) (.inl ⟨rfl, rfl⟩) rfl (a1 := ?_) ?_ ?_
  rotate_left
  ·simp only [Act.put, List.setIfInBounds_toArray, List.set_cons_succ, List.set_cons_zero]; rfl
  refine hoist_skip [] [] 12 rfl (by kernel_rfl) (.inl ⟨rfl, rfl⟩) rfl (a1 := ?_) ?_ ?_
  rotate_left
  ·simp only [Act.put, List.setIfInBounds_toArray, List.set_cons_succ, List.set_cons_zero]; rfl
  refine hoist_skip [] [] 13 rfl (by kernel_rfl) (.inl ⟨rfl, rfl⟩) rfl (a1 := ?_) ?_ ?_
  rotate_left
  ·simp only [Act.put, List.setIfInBounds_toArray, List.set_cons_succ, List.set_cons_zero]; rfl
  refine hoist_skip [] [] 14 rfl (by kernel_rfl) (.inl ⟨rfl, rfl⟩) rfl (a1 := ?_) ?_ ?_
  rotate_left
  ·simp only [Act.put, List.setIfInBounds_toArray, List.set_cons_succ, List.set_cons_zero]; rfl
  refine hoist_skip [] [] 15 rfl (by kernel_rfl) (.inl ⟨rfl, rfl⟩) rfl (a1 := ?_) ?_ ?_
  rotate_left
  ·simp only [Act.put, List.setIfInBounds_toArray, List.set_cons_succ, List.set_cons_zero]; rfl
  refine hoist [] [] (a1 := ?_) 16 rfl (by kernel_rfl) (.inl ⟨rfl, rfl⟩) rfl rfl rfl (fun x K hK => ?_) ?_
  rotate_left
  ·go_big_quiet_op
   exact hK
  refine hoist [] [] (a1 := ?_) 17 rfl (by kernel_rfl) (.inl ⟨rfl, rfl⟩) rfl rfl rfl (fun x K hK => ?_) ?_
  rotate_left
  ·go_big_quiet_op
   exact hK
  refine hoist_skip [] [] 18 rfl (by kernel_rfl) (.inl ⟨rfl, rfl⟩) rfl (a1 := ?_) ?_ ?_
  rotate_left
  ·simp only [Act.put, List.setIfInBounds_toArray, List.set_cons_succ, List.set_cons_zero]; rfl
  refine hoist_skip [] [] 19 rfl (by kernel_rfl) (.inl ⟨rfl, rfl⟩) rfl (a1 := ?_) ?_ ?_
  rotate_left
  ·simp only [Act.put, List.setIfInBounds_toArray, List.set_cons_succ, List.set_cons_zero]; rfl
  refine hoist_skip [] [] 20 rfl (by kernel_rfl) (.inl ⟨rfl, rfl⟩) rfl (a1 := ?_) ?_ ?_
  rotate_left
  ·simp only [Act.put, List.setIfInBounds_toArray, List.set_cons_succ, List.set_cons_zero]; rfl
  refine hoist_skip [] [] 21 rfl (by kernel_rfl) (.inl ⟨rfl, rfl⟩) rfl (a1 := ?_) ?_ ?_
  rotate_left
  ·simp only [Act.put, List.setIfInBounds_toArray, List.set_cons_succ, List.set_cons_zero]; rfl
  refine hoist [] [] (a1 := ?_) 22 rfl (by kernel_rfl) (.inl ⟨rfl, rfl⟩) rfl rfl rfl (fun x K hK => ?_) ?_
  rotate_left
  ·go_big_quiet_op
   exact hK
  refine done (by kernel_rfl) (fun xr => ?_)
  have B4 := Lib.hid (B3.out.trans xr.bw)
  try clear l2
  clear B3 X3
  generalize xr.now = w4 at *
  go_wp2_with fail
  go_ret2
  exact .no (by have := hsp'.out; omega) hno.out rfl B4.out
end Go.Proofs.YtikmhlbpefednaaGreat
