/- The reference's Seal. No condition but the sizes'. The reference's way when a source comes, and when an index is marked. No condition. -/
import Derived.Test.YtikmhlbpefednaaGreatGV1
import Derived.Test.YtikmhlbpefednaaGreatSrU
import Derived.Test.YtikmhlbpefednaaGreatSrL
import Derived.Test.YtikmhlbpefednaaGreatSrF
import Derived.Test.YtikmhlbpefednaaGreatRtO
namespace Go.Proofs.YtikmhlbpefednaaGreat
open Go.RowKit
section
variable {w w' : World} {base g : Nat} {K : List Nat} {lim : Int} {used : Nat} {M : List (Nat × Nat × Nat)} {vN vW : Value} {ps : List Nat} {v : Nat → Value} {L : Nat → List Nat}
theorem RwV.nmN (h : RwV w base g K lim used M vN vW ps v L) : ∀ k, vN.ownBlock = some k → k ∉ [g] := fun k hk hm => h.nm.ne h.hp (by decide) k hk (by simpa using hm)
theorem RwV.wiN (h : RwV w base g K lim used M vN vW ps v L) : ∀ k, vW.ownBlock = some k → k ∉ [g] := fun k hk hm => h.wi.ne h.hp (by decide) k hk (by simpa using hm)
theorem RwV.eaN (h : RwV w base g K lim used M vN vW ps v L) (T : Still [g] w w') {u : Nat} (hu : used ≤ u) : ∀ i (h : i < M.length), RWn w' base (ps.getD i 0) (v i) (L i) ∧ WinI (M[i]).2.1 (M[i]).2.2 (L i) ∧ (L i).length ≤ u := fun i hi =>
 ⟨(h.ea i hi).1.still T (fun hm => hp_ne (h.ea i hi).1.1 h.hp (by decide) (by simpa using hm)) (fun k hk hm => (h.ea i hi).1.2.2.ne h.hp (by decide) k hk (by simpa using hm)), (h.ea i hi).2.1, Nat.le_trans (h.ea i hi).2.2 hu⟩
theorem RwV.use (h : RwV w base g K lim used M vN vW ps v L) : RwV (w.setCell ⟨g, 51, none⟩ (.int .i64 ((used + 1 : Nat) : Int))) base g K lim (used + 1) M vN vW ps v L := by
 have T := still_setR w g 51 (.int .i64 ((used + 1 : Nat) : Int))
 have h1 := hp_set h.hp 51 (.int .i64 ((used + 1 : Nat) : Int))
 rw [show 51 = 50 + 1 from rfl, rwayC_set h.len] at h1
 exact ⟨h1, h.bg, h.len, h.byt, h.nm.still T (fun _ _ => trivial) h.nmN, h.wi.still T (fun _ _ => trivial) h.wiN, h.eaN T (Nat.le_succ _), h.nd⟩
theorem RwV.range (h : RwV w base g K lim used M vN vW ps v L) : w.rangeAt g 0 (bvs K) := fun j u hj => by
 obtain ⟨hj1, hj2⟩ := bvs_iv K j u hj
 rw [Nat.zero_add]
 refine (hp_cell h.hp j).trans ?_
 unfold rwayC
 rw [Array.getElem?_append_left (by rw [ivA_size]; exact hj1), hj2]
end
inductive RSealPost (base g : Nat) (K : List Nat) (lim : Int) (used : Nat) (M : List (Nat × Nat × Nat)) (vN vW : Value) (ps : List Nat) (v : Nat → Value) (L : Nat → List Nat) (d : RtpD) (i : Int) (w : World) (e : Ending) (w' : World) : Prop
 | spent (h : lim ≤ used) (he : e = .returned (.tuple #[.slice none 0 0, .int .i64 7])) (hb : BW w w')
 | no (h : ¬ lim ≤ used) (hk : ¬ okS d i) (he : e = .returned (.tuple #[.slice none 0 0, .int .i64 1])) (hb : BW w w')
 | yes (h : ¬ lim ≤ used) (hk : okS d i) (s : Option Addr) (c : Nat) (he : e = .returned (.tuple #[.slice s (sealB K d i.toNat).length c, .int .i64 0])) (ho : OB w' w.heap.size 5 (.slice s (sealB K d i.toNat).length c) (sealB K d i.toNat).length (sealB K d i.toNat)) (hw : RwV w' base g K lim (used + 1) M vN vW ps v L) (ht : Still [g] w w')
set_option maxRecDepth 100000 in
set_option maxHeartbeats 8000000 in
theorem rseal_ok (base g : Nat) (K : List Nat) (lim : Int) (used : Nat) (M : List (Nat × Nat × Nat)) (vN vW : Value) (ps : List Nat) (v : Nat → Value) (L : Nat → List Nat) (c : Array Value) (d : RtpD) (i : Int) (hi : -9223372036854775808 ≤ i ∧ i ≤ 9223372036854775807) (hu : used ≤ 1000000) (w : World) (hW : RwV w base g K lim used M vN vW ps v L) (hV : RtpV w c d) (wf : RtpWf d) (hpl : d.payload.length ≤ 1000000) :
  Calls Tryz.prog 10 #[.pointer (some ⟨g, 0, none⟩), .agg c, .int .i64 i] w (RSealPost base g K lim used M vN vW ps v L d i w) := by
 have cW := fun wz (h : BW w wz) => Lib.hid (refWrite_any c d wz (hV.bw h) wf hpl)
 have hWW := Lib.hid hW
 have hg := Lib.hid hW.hp.lt
 obtain ⟨so_, co, se, ce, sp, cp, rfl, -, -, -⟩ := hV.open
 simp only [rtpC] at cW ⊢
 have BA : BW w (w.alloc (.cells #[.bool d.marker, .int .u8 (d.typ : Nat), .int .u16 (d.seq : Nat), .int .u32 (d.stamp : Nat), .int .u32 (d.source : Nat), .slice so_ d.others.length co, .bool d.ext, .int .u16 (d.profile : Nat), .slice se d.extra.length ce, .slice sp d.payload.length cp, .int .u8 (d.pad : Nat)] 37)) := (BW.refl w).alloc
 have X1 := Lib.hid (HpB.new w (.cells #[.bool d.marker, .int .u8 (d.typ : Nat), .int .u16 (d.seq : Nat), .int .u32 (d.stamp : Nat), .int .u32 (d.source : Nat), .slice so_ d.others.length co, .bool d.ext, .int .u16 (d.profile : Nat), .slice se d.extra.length ce, .slice sp d.payload.length cp, .int .u8 (d.pad : Nat)] 37))
 have B1 := Lib.hid BA
 clear hW hV
 replace BA := Lib.hid BA
 go_enter Tryz.func10, Tryz.ntmps10
 go_upto_region 1 with (fail)
 generalize (w.alloc _) = w1 at *
 generalize hg0 : w.heap.size = g0 at *
 replace hg0 := Lib.hid hg0
 clear BA
 have l0 : ∀ y : LaterS [] w1, y.now.cell? _ = _ := fun y => (hWW.out.bw (B1.out.trans y.bw)).lm
 have l1 : ∀ y : LaterS [] w1, y.now.cell? _ = _ := fun y => (hWW.out.bw (B1.out.trans y.bw)).usd
 refine wp_region_gg [] [] [] (by kernel_rfl) ?_
 refine hoist [] [] (a1 := ?_) 0 rfl (by kernel_rfl) (.inl ⟨rfl, rfl⟩) rfl rfl rfl (fun x K hK => ?_) ?_
 rotate_left
 ·go_big_quiet_op
  exact hK
 refine hoist [] [] (a1 := ?_) 1 rfl (by kernel_rfl) (.inl ⟨rfl, rfl⟩) rfl rfl rfl (fun x K hK => ?_) ?_
 rotate_left
 ·go_big_quiet_op
  exact hK
 refine hoist [] [] (a1 := ?_) 2 rfl (by kernel_rfl) (.inl ⟨rfl, rfl⟩) rfl rfl rfl (fun x K hK => ?_) ?_
 rotate_left
 ·go_big_quiet_op
  exact hK
 refine hoist [] [] (a1 := ?_) 3 rfl (by kernel_rfl) (.inl ⟨rfl, rfl⟩) rfl rfl rfl (fun x K hK => ?_) ?_
 rotate_left
 ·go_big_quiet_op
  exact hK
 refine hoist [] [] (a1 := ?_) 4 rfl (by kernel_rfl) (.inl ⟨rfl, rfl⟩) rfl rfl rfl (fun x K hK => ?_) ?_
 rotate_left
 ·go_big_quiet_op
  exact hK
 refine hoist [] [] (a1 := ?_) 5 rfl (by kernel_rfl) (.inl ⟨rfl, rfl⟩) rfl rfl rfl (fun x K hK => ?_) ?_
 rotate_left
 ·go_big_quiet_op
  exact hK
 refine hoist [] [] (a1 := ?_) 6 rfl (by kernel_rfl) (.inl ⟨rfl, rfl⟩) rfl rfl rfl (fun x K hK => ?_) ?_
 rotate_left
 ·go_big_quiet_op
  exact hK
 refine hoist [] [] (a1 := ?_) 7 rfl (by kernel_rfl) (.inl ⟨rfl, rfl⟩) rfl rfl rfl (fun x K hK => ?_) ?_
 rotate_left
 ·go_big_quiet_op
  exact hK
 refine hoist [] [] (a1 := ?_) 8 rfl (by kernel_rfl) (.inl ⟨rfl, rfl⟩) rfl rfl rfl (fun x K hK => ?_) ?_
 rotate_left
 ·go_big_quiet_op
  exact hK
 refine done (by kernel_rfl) (fun xr => ?_)
 have B2 := Lib.hid (B1.out.trans xr.bw)
 have X2 := Lib.hid (X1.out.bw xr.bw)
 clear l0 l1 X1 B1
 generalize xr.now = w2 at *
 by_cases hsp : lim ≤ (used : Int)
 ·have d1 : decide (lim ≤ (used : Int)) = true := by simpa using hsp
  go_wp2_with fail
  go_ret2
  exact .spent hsp rfl B2.out
 have d1 : decide (lim ≤ (used : Int)) = false := by simpa using hsp
 have hsp' := Lib.hid hsp
 clear hsp
 have z0 := hp_cell (X2.out) 0
 have z1 := hp_cell (X2.out) 1
 have z2 := hp_cell (X2.out) 2
 have z3 := hp_cell (X2.out) 3
 have z4 := hp_cell (X2.out) 4
 have z5 := hp_cell (X2.out) 5
 have z6 := hp_cell (X2.out) 6
 have z7 := hp_cell (X2.out) 7
 have z8 := hp_cell (X2.out) 8
 have z9 := hp_cell (X2.out) 9
 have z10 := hp_cell (X2.out) 10
 simp only [List.getElem?_toArray, List.getElem?_cons_zero, List.getElem?_cons_succ] at z0 z1 z2 z3 z4 z5 z6 z7 z8 z9 z10
 go_upto_region 3 with (fail)
 clear d1
 go_wp2_with fail
 refine Calls.mono (cW w2 B2.out).out ?_
 rintro e w3 ⟨hpost, hb⟩
 have B3 := Lib.hid (B2.out.trans hb)
 have X3 := Lib.hid (X2.out.bw hb)
 have hwz := Lib.hid B2.out.size
 clear X2 B2 cW
 clear z0 z1 z2 z3 z4 z5 z6 z7 z8 z9 z10
 rcases hpost with ⟨b, v', hR, rfl, O3⟩ | ⟨hR, rfl⟩
 rotate_left
 ·have hno : Hid (¬ okS d i) := fun h => by
   unfold writeN at hR
   rw [if_pos ⟨h.1, by have := h.2.1; omega⟩] at hR
   cases hR
  clear hb hR
  dsimp only
  go_wp2_with fail
  go_ret2
  exact .no (by have := hsp'.out; omega) hno.out rfl B3.out
 obtain ⟨hmay, hb1, rfl⟩ : mayN d = true ∧ (bytesN d).length ≤ 1200 ∧ b = bytesN d := by
  unfold writeN at hR
  split at hR
  ·rename_i h; exact ⟨h.1, h.2, (Option.some.inj hR).symm⟩
  ·cases hR
 obtain ⟨sv, cv, rfl, hcv, hmv⟩ := O3.len
 unfold maxLen at hmv
 have hh := hdr_bytes d hmay
 have hg12 := hdrN_ge (bytesN d) (by rw [hh])
 have hok : Hid (okS d i ↔ ((bytesN d).length ≤ 1190 ∧ 0 ≤ i ∧ i < 281474976710656 ∧ i % 65536 = d.seq)) := ⟨fun h => h.2, fun h => ⟨hmay, h⟩⟩
 have hsl := fun j => Lib.hid (sealB_len K d j hmay)
 have hsB := fun j => Lib.hid (show sealB K d j = spinN K (hdrN (bytesN d)).1 d.source j (bytesN d) ++ tagN K (spinN K (hdrN (bytesN d)).1 d.source j (bytesN d)) j from rfl)
 rw [hh] at hg12
 simp only [hh] at hsB
 generalize (12 + 4 * d.others.length + (extN d).length) = hN at *
 have O3' := Lib.hid O3
 clear O3 hR hb
 generalize bytesN d = b at *
 generalize hn : b.length = n at *
 replace hh := Lib.hid hh
 replace hn := Lib.hid hn
 dsimp only
 by_cases h0 : i < 0
 ·have hno : Hid (¬ okS d i) := fun h => by have := hok.out.1 h; omega
  have e1 : decide (i < 0) = true := by simpa using h0
  clear hok hsl hsB h0
  go_wp2_with fail
  go_ret2
  exact .no (by have := hsp'.out; omega) hno.out rfl B3.out
 have e1 : decide (i < 0) = false := by simpa using h0
 by_cases h48 : 281474976710656 ≤ i
 ·have hno : Hid (¬ okS d i) := fun h => by have := hok.out.1 h; omega
  have e2 : decide (281474976710656 ≤ i) = true := by simpa using h48
  clear hok hsl hsB h48
  go_wp2_with fail
  go_ret2
  exact .no (by have := hsp'.out; omega) hno.out rfl B3.out
 have e2 : decide (281474976710656 ≤ i) = false := by simpa using h48
 have z2 := (hp_cell X3.out 2).trans (show _ = some (.int .u16 (d.seq : Nat)) from rfl)
 obtain ⟨ii, rfl⟩ : ∃ ii : Nat, i = (ii : Nat) := ⟨i.toNat, by omega⟩
 have hs16 : (d.seq : Int) ≤ 65535 := by have := wf.seq; omega
 by_cases hsq : (ii : Int) % 65536 = (d.seq : Int)
 rotate_left
 ·have hno : Hid (¬ okS d ii) := fun h => by have := hok.out.1 h; omega
  have e3 : ((ii : Int) % 65536 != (d.seq : Int)) = true := by simpa using hsq
  clear hok hsl hsB hsq h0 h48
  replace hg12 := Lib.hid hg12
  replace hi := Lib.hid hi
  go_wp2_with fail
  go_ret2
  exact .no (by have := hsp'.out; omega) hno.out rfl B3.out
 have e3 : ((ii : Int) % 65536 != (d.seq : Int)) = false := by simpa using hsq
 by_cases hln : 1190 < n
 ·have hno : Hid (¬ okS d ii) := fun h => by have := hok.out.1 h; omega
  have e4 : decide ((1190 : Int) < (n : Int)) = true := by simp; omega
  clear hok hsl hsB hln hsq h0 h48
  replace hg12 := Lib.hid hg12
  replace hi := Lib.hid hi
  go_wp2_with fail
  go_ret2
  exact .no (by have := hsp'.out; omega) hno.out rfl B3.out
 have e4 : decide ((1190 : Int) < (n : Int)) = false := by simp; omega
 have hyes : Hid (okS d ii) := hok.out.2 (by omega)
 have hii : ii ≤ 281474976710656 := by omega
 have hsl' := hsl ii
 have hsB' := hsB ii
 clear hok hsq hsl hsB h0 h48
 replace hg12 := Lib.hid hg12
 replace hi := Lib.hid hi
 have h3z := Lib.hid (show w.heap.size ≤ w2.heap.size from hwz.out)
 go_upto_region 6 with (fail)
 clear e1 e2 e3 e4 z2
 have z5 := (hWW.out.bw B3.out).usd
 have f5 := hp_frz (hWW.out.bw B3.out).hp 51
 have W6 := Lib.hid (hWW.out.bw B3.out).use
 have T6 := still_setR w3 g 51 (.int .i64 ((used + 1 : Nat) : Int))
 have O6 := Lib.hid (O3'.out.still T6 (fun k hk hm => by obtain rfl : k = g := (by simpa using hm); have := O3'.out.ge' k hk; have := h3z.out; have := hg.out; have := hg0.out; omega))
 have R6 := Lib.hid ((B3.out.still [g]).trans T6)
 have X6 := Lib.hid (X3.out.st T6 (by have := hg.out; have := hg0.out; simp; omega))
 have h36 := Lib.hid (Nat.le_trans B3.out.size T6.size)
 clear B3 O3' X3 T6 hWW
 push_cast at W6 O6 R6 X6 h36
 go_upto_region 7 with (fail)
 clear z5 f5
 generalize (w3.setCell _ _) = w6 at *
 have ch := Lib.hid (rhead_ok sv n cv n b (by have := hg12.out; have := hn.out; omega) (Nat.le_refl _) (by omega) w6 O6.out.sb n rfl)
 rw [List.take_of_length_le (by rw [hn.out]; exact Nat.le_refl _), hh.out] at ch
 have cs := fun wz (h : BW w6 wz) => Lib.hid (rsealed_ok K (W6.out.len) (W6.out.byt) sv n cv b hN d.source ii (by have := hg12.out; have := hn.out; omega) wf.source hii (by omega) wz (O6.out.bw h).sb)
 generalize spinN K hN d.source ii b = sp at *
 go_wp2_with fail
 refine Calls.mono ch.out ?_
 rintro e w' ⟨rfl, rfl⟩
 dsimp only
 clear ch
 have y4 := (hp_cell X6.out 4).trans (show _ = some (.int .u32 (d.source : Nat)) from rfl)
 have l4 : ∀ y : LaterS [] w6, y.now.cell? _ = _ := fun y => y.bw.cell y4
 clear y4
 go_upto_region 8 with (fail)
 have hKl : Hid (K.length = 50) := W6.out.len
 refine wp_region_gg [] [] [9] (by kernel_rfl) ?_
 refine hoist [] [] (a1 := ?_) 0 rfl (by kernel_rfl) (.inl ⟨rfl, rfl⟩) rfl rfl rfl (fun x K hK => ?_) ?_
 rotate_left
 ·go_big_quiet_op
  exact hK
 refine hoist [] [] (a1 := ?_) 1 rfl (by kernel_rfl) (.inl ⟨rfl, rfl⟩) rfl rfl rfl (fun x K hK => ?_) ?_
 rotate_left
 ·go_big_quiet_op
  exact hK
 refine hoist [] [] (a1 := ?_) 2 rfl (by kernel_rfl) (.inl ⟨rfl, rfl⟩) rfl rfl rfl (fun x K hK => ?_) ?_
 rotate_left
 ·go_big_quiet_op
  exact hK
 refine hoist [] [] (a1 := ?_) 3 rfl (by kernel_rfl) (.inl ⟨rfl, rfl⟩) rfl rfl rfl (fun x K hK => ?_) ?_
 rotate_left
 ·refine qlW ar50 rfl (by rfl) hKl.out (fun w' hw => by subst hw; exact (W6.out.bw x.bw).range) (by simp only [Act.put, List.setIfInBounds_toArray, List.set_cons_succ, List.set_cons_zero]; rfl) ?_
  exact hK
 refine hoist [] [] (a1 := ?_) 4 rfl (by kernel_rfl) (.inl ⟨rfl, rfl⟩) rfl rfl rfl (fun x K hK => ?_) ?_
 rotate_left
 ·go_big_quiet_op
  exact hK
 refine hoist [] [] (a1 := ?_) 5 rfl (by kernel_rfl) (.inl ⟨rfl, rfl⟩) rfl rfl rfl (fun x K hK => ?_) ?_
 rotate_left
 ·go_big_quiet_op
  exact hK
 refine hoist [] [] (a1 := ?_) 6 rfl (by kernel_rfl) (.inl ⟨rfl, rfl⟩) rfl rfl rfl (fun x K hK => ?_) ?_
 rotate_left
 ·go_big_quiet_op
  exact hK
 refine hoist [] [] (a1 := ?_) 7 rfl (by kernel_rfl) (.inl ⟨rfl, rfl⟩) rfl rfl rfl (fun x K hK => ?_) ?_
 rotate_left
 ·go_big_quiet_op
  exact hK
 refine hoist [] [] (a1 := ?_) 8 rfl (by kernel_rfl) (.inl ⟨rfl, rfl⟩) rfl rfl rfl (fun x K hK => ?_) ?_
 rotate_left
 ·go_big_quiet_op
  exact hK
 refine tail 9 rfl (by kernel_rfl) rfl (fun xr => ?_)
 simp only [List.drop_succ_cons, List.drop_zero]
 go_wp2_with fail
 refine Calls.mono (cs xr.now xr.bw).out ?_
 rintro e w9 ⟨s9, c9, rfl, O9, hb⟩
 have W9 := Lib.hid (W6.out.bw (xr.bw.trans hb))
 have R9 := Lib.hid (R6.out.bw' (xr.bw.trans hb))
 have h39 := Lib.hid (Nat.le_trans h36.out xr.bw.size)
 replace O9 := Lib.hid O9
 clear hb cs W6 R6 X6
 dsimp only
 go_wp2_with fail
 go_ret2
 have hsl9 := hsl'.out
 rw [← hsB'.out] at O9
 refine .yes (by have := hsp'.out; omega) hyes.out s9 c9 ?_ ?_ W9.out R9.out
 ·rw [Int.toNat_natCast, hsl9]; rfl
 ·rw [Int.toNat_natCast, hsl9]
  exact O9.out.up h39.out
end Go.Proofs.YtikmhlbpefednaaGreat

namespace Go.Proofs.YtikmhlbpefednaaGreat
open Go.RowKit
theorem EQ.apt {α β : Type} {E : Elt α} {F : Elt β} {T U : TypeId} {w : World} {b1 b2 : Nat} {v u : Value} {n m : Nat} {l : List α} {k : List β} (h : EQ E T w b1 v n l) (g : EQ F U w b2 u m k) (ht : T ≠ U) : ∀ j, v.ownBlock = some j → j ∉ u.ownBlock.toList := fun j hj hm => by
 obtain ⟨cs, hr⟩ := g.row j (by simpa using hm)
 exact h.ne hr ht.symm j hj rfl
def rwBs (g m : Nat) (vN vW : Value) (ps : List Nat) (v : Nat → Value) : List Nat := g :: (vN.ownBlock.toList ++ (vW.ownBlock.toList ++ (ps ++ (List.range m).flatMap fun i => (v i).ownBlock.toList)))
theorem mem_rwBs {g m : Nat} {vN vW : Value} {ps : List Nat} {v : Nat → Value} (hl : ps.length = m) {k : Nat} : k ∈ rwBs g m vN vW ps v ↔ rwBlk g m vN vW ps v k := by
 unfold rwBs rwBlk
 rw [List.mem_cons, List.mem_append, List.mem_append, List.mem_append, List.mem_flatMap]
 have h1 : k ∈ ps ↔ ∃ i, i < m ∧ k = ps.getD i 0 := by
  constructor
  ·intro h
   obtain ⟨i, hi, rfl⟩ := List.mem_iff_getElem.1 h
   exact ⟨i, by omega, by rw [List.getD_eq_getElem?_getD, List.getElem?_eq_getElem hi]; rfl⟩
  ·rintro ⟨i, hi, rfl⟩
   rw [List.getD_eq_getElem?_getD, List.getElem?_eq_getElem (by omega)]
   exact List.getElem_mem _
 rw [h1]
 constructor
 ·rintro (h | h | h | ⟨i, hi, h⟩ | ⟨i, hi, h⟩)
  ·exact .inl h
  ·exact .inr (.inl (by simpa using h))
  ·exact .inr (.inr (.inl (by simpa using h)))
  ·exact .inr (.inr (.inr ⟨i, hi, .inl h⟩))
  ·exact .inr (.inr (.inr ⟨i, by simpa using hi, .inr (by simpa using h)⟩))
 ·rintro (h | h | h | ⟨i, hi, h | h⟩)
  ·exact .inl h
  ·exact .inr (.inl (by simpa using h))
  ·exact .inr (.inr (.inl (by simpa using h)))
  ·exact .inr (.inr (.inr (.inl ⟨i, hi, h⟩)))
  ·exact .inr (.inr (.inr (.inr ⟨i, by simpa using hi, by simpa using h⟩)))
structure RwI (w : World) (base g : Nat) (K : List Nat) (lim : Int) (used : Nat) (M : List (Nat × Nat × Nat)) (Nm : List Nat) (vN vW : Value) (ps : List Nat) (v : Nat → Value) (L : Nat → List Nat) : Prop where
 hp : HpB w g (.cells (rwayC K lim used vN vW) 52)
 bg : base ≤ g
 len : K.length = 50
 byt : ByL K
 nm : EQ U4 33 w base vN Nm.length Nm
 wi : EQ PW 104 w base vW M.length ps
 ea : ∀ i (h : i < M.length), RWn w base (ps.getD i 0) (v i) (L i) ∧ WinI (M[i]).2.1 (M[i]).2.2 (L i) ∧ (L i).length ≤ used
 nd : ∀ i j, i < M.length → j < M.length → i ≠ j → ps.getD i 0 ≠ ps.getD j 0 ∧ ∀ k, (v i).ownBlock = some k → (v j).ownBlock ≠ some k
section
variable {w w' w1 : World} {base g : Nat} {K : List Nat} {lim : Int} {used : Nat} {M : List (Nat × Nat × Nat)} {Nm : List Nat} {vN vW : Value} {ps : List Nat} {v : Nat → Value} {L : Nat → List Nat}
theorem RwI.bw (h : RwI w base g K lim used M Nm vN vW ps v L) (b : BW w w') : RwI w' base g K lim used M Nm vN vW ps v L := ⟨h.hp.bw b, h.bg, h.len, h.byt, h.nm.bw b, h.wi.bw b, fun i hi => ⟨(h.ea i hi).1.bw b, (h.ea i hi).2⟩, h.nd⟩
theorem RwI.win' (h : RwI w base g K lim used M Nm vN vW ps v L) : w.cell? ⟨g, 53, none⟩ = some vW := (hp_cell h.hp 53).trans (rwayC_at h.len 3)
theorem RwV.name (h : RwV w base g K lim used M vN vW ps v L) {S : List Nat} (hS : ∀ k ∈ S, vN.ownBlock = some k) (T : Still S w w1) {vN' : Value} {s : Nat} (hn : EQ U4 33 w1 base vN' (M.length + 1) (M.map Prod.fst ++ [s])) : RwI (w1.setCell ⟨g, 52, none⟩ vN') base g K lim used M (M.map Prod.fst ++ [s]) vN' vW ps v L := by
 have hp1 := h.hp.st T (fun hm => h.nm.ne h.hp (by decide) g (hS g hm) rfl)
 have wi1 := h.wi.still T (fun _ _ => trivial) (fun k hk hm => h.wi.apt h.nm (by decide) k hk (by rw [hS k hm]; simp))
 have ea1 : ∀ i (hi : i < M.length), RWn w1 base (ps.getD i 0) (v i) (L i) := fun i hi => (h.ea i hi).1.still T (fun hm => h.nm.ne (h.ea i hi).1.1 (by decide) _ (hS _ hm) rfl) (fun k hk hm => (h.ea i hi).1.2.2.apt h.nm (by decide) k hk (by rw [hS k hm]; simp))
 have T2 := still_setR w1 g 52 vN'
 have hp2 := hp_set hp1 52 vN'
 rw [show 52 = 50 + 2 from rfl, rwayC_set h.len] at hp2
 exact ⟨hp2, h.bg, h.len, h.byt, by rw [List.length_append, List.length_map]; exact hn.still T2 (fun _ _ => trivial) (fun k hk hm => hn.ne hp1 (by decide) k hk (by simpa using hm)), wi1.still T2 (fun _ _ => trivial) (fun k hk hm => wi1.ne hp1 (by decide) k hk (by simpa using hm)),
  fun i hi => ⟨(ea1 i hi).still T2 (fun hm => hp_ne (ea1 i hi).1 hp1 (by decide) (by simpa using hm)) (fun k hk hm => (ea1 i hi).2.2.ne hp1 (by decide) k hk (by simpa using hm)), (h.ea i hi).2⟩, h.nd⟩
theorem RwI.grow {s : Nat} (h : RwI w base g K lim used M (M.map Prod.fst ++ [s]) vN vW ps v L) {p : Nat} (hP : HpB w p (.cells #[.slice none 0 0] 109)) (hpb : base ≤ p) (hpn : ∀ i, i < M.length → ps.getD i 0 ≠ p) {S : List Nat} (hS : ∀ k ∈ S, vW.ownBlock = some k) (T : Still S w w1) {vW' : Value} (hn : EQ PW 104 w1 base vW' (M.length + 1) (ps ++ [p])) :
  RwV (w1.setCell ⟨g, 53, none⟩ vW') base g K lim used (M ++ [(s, 0, 0)]) vN vW' (ps ++ [p]) (fun i => if i = M.length then .slice none 0 0 else v i) (fun i => if i = M.length then [] else L i) := by
 have hp1 := h.hp.st T (fun hm => h.wi.ne h.hp (by decide) g (hS g hm) rfl)
 have nm1 := h.nm.still T (fun _ _ => trivial) (fun k hk hm => h.nm.apt h.wi (by decide) k hk (by rw [hS k hm]; simp))
 have P1 := hP.st T (fun hm => h.wi.ne hP (by decide) p (hS p hm) rfl)
 have ea1 : ∀ i (hi : i < M.length), RWn w1 base (ps.getD i 0) (v i) (L i) := fun i hi => (h.ea i hi).1.still T (fun hm => h.wi.ne (h.ea i hi).1.1 (by decide) _ (hS _ hm) rfl) (fun k hk hm => (h.ea i hi).1.2.2.apt h.wi (by decide) k hk (by rw [hS k hm]; simp))
 have T2 := still_setR w1 g 53 vW'
 have hp2 := hp_set hp1 53 vW'
 rw [show 53 = 50 + 3 from rfl, rwayC_set h.len] at hp2
 have hpl : ps.length = M.length := h.wi.1
 have g1 : ∀ i, i < M.length → (ps ++ [p]).getD i 0 = ps.getD i 0 := fun i hi => by rw [List.getD_eq_getElem?_getD, List.getD_eq_getElem?_getD, List.getElem?_append_left (by omega)]
 have g2 : (ps ++ [p]).getD M.length 0 = p := by rw [List.getD_eq_getElem?_getD, List.getElem?_append_right (by omega), hpl, Nat.sub_self]; rfl
 refine ⟨hp2, h.bg, h.len, h.byt, ?_, ?_, fun i hi => ?_, fun i j hi hj hij => ?_⟩
 ·have e : (M ++ [(s, 0, 0)]).map Prod.fst = M.map Prod.fst ++ [s] := by simp
  rw [e]
  have := nm1.still T2 (fun _ _ => trivial) (fun k hk hm => nm1.ne hp1 (by decide) k hk (by simpa using hm))
  rw [List.length_append, List.length_map] at this
  rw [List.length_append]
  exact this
 ·rw [List.length_append]
  exact hn.still T2 (fun _ _ => trivial) (fun k hk hm => hn.ne hp1 (by decide) k hk (by simpa using hm))
 ·rw [List.length_append, List.length_singleton] at hi
  by_cases e : i = M.length
  ·subst e
   rw [if_pos rfl, if_pos rfl, g2]
   have e2 : (M ++ [(s, 0, 0)])[M.length]'(by simp) = (s, 0, 0) := by simp
   refine ⟨⟨P1.st T2 (fun hm => hp_ne P1 hp1 (by decide) (by simpa using hm)), hpb, EQ.nil _ _ _ _⟩, ?_, Nat.zero_le _⟩
   rw [e2]
   exact WinI.nil
  ·have hi' : i < M.length := by omega
   rw [if_neg e, if_neg e, g1 i hi']
   refine ⟨(ea1 i hi').still T2 (fun hm => hp_ne (ea1 i hi').1 hp1 (by decide) (by simpa using hm)) (fun k hk hm => (ea1 i hi').2.2.ne hp1 (by decide) k hk (by simpa using hm)), ?_⟩
   have e2 : (M ++ [(s, 0, 0)])[i]'(by simp; omega) = M[i] := List.getElem_append_left hi'
   rw [e2]
   exact (h.ea i hi').2
 ·rw [List.length_append, List.length_singleton] at hi hj
  by_cases e1 : i = M.length
  ·subst e1
   have hj' : j < M.length := by omega
   rw [g2, g1 j hj', if_pos rfl]
   exact ⟨fun e => hpn j hj' e.symm, fun k hk => by cases hk⟩
  ·have hi' : i < M.length := by omega
   rw [g1 i hi', if_neg e1]
   by_cases e2 : j = M.length
   ·subst e2
    rw [g2, if_pos rfl]
    exact ⟨hpn i hi', fun k _ hk => by cases hk⟩
   ·have hj' : j < M.length := by omega
    rw [g1 j hj', if_neg e2]
    exact h.nd i j hi' hj' hij
theorem RwV.marked (h : RwV w base g K lim used M vN vW ps v L) {k s : Nat} (hk : k < M.length) (hs : (M[k]).1 = s) {u : Value} {L' : List Nat} {nx bs : Nat} {S : List Nat} (hS : ∀ j ∈ S, j = ps.getD k 0 ∨ (v k).ownBlock = some j) (T : Still S w w1) (hR : RWn w1 base (ps.getD k 0) u L') (hI : WinI nx bs L') (hl : L'.length ≤ used + 1) (hu : ∀ j, u.ownBlock = some j → (v k).ownBlock = some j ∨ w.heap.size ≤ j) :
  w1.cell? ⟨g, 51, none⟩ = some (.int .i64 (used : Nat)) ∧ (∀ j, w1.frozen? ⟨g, j, none⟩ = false) ∧ RwV (w1.setCell ⟨g, 51, none⟩ (.int .i64 ((used + 1 : Nat) : Int))) base g K lim (used + 1) (M.set k (s, nx, bs)) vN vW ps (fun i => if i = k then u else v i) (fun i => if i = k then L' else L i) := by
 have hk1 := (h.ea k hk).1
 have hSg : ∀ j ∈ S, ∀ b cs (t : TypeId) fr, w.heap[b]? = some (.cells cs t fr) → t ≠ 109 → t ≠ 2 → b ≠ j := fun j hj b cs t fr hb t1 t2 e => by
  subst e
  rcases hS b hj with e | e
  ·rw [e] at hb; exact hp_ne hb hk1.1 t1 rfl
  ·exact hk1.2.2.ne hb t2 b e rfl
 have hgS : g ∉ S := fun hm => hSg g hm g _ _ _ h.hp (by decide) (by decide) rfl
 have hp1 := h.hp.st T hgS
 have nm1 := h.nm.still T (fun _ _ => trivial) (fun j hj hm => by
  obtain ⟨cs, hr⟩ := h.nm.row j hj
  exact hSg j hm j _ _ _ hr (by decide) (by decide) rfl)
 have wi1 := h.wi.still T (fun _ _ => trivial) (fun j hj hm => by
  obtain ⟨cs, hr⟩ := h.wi.row j hj
  exact hSg j hm j _ _ _ hr (by decide) (by decide) rfl)
 have ea1 : ∀ i (hi : i < M.length), i ≠ k → RWn w1 base (ps.getD i 0) (v i) (L i) := fun i hi hik => (h.ea i hi).1.still T (fun hm => by
   rcases hS _ hm with e | e
   ·exact (h.nd i k hi hk hik).1 e
   ·exact hk1.2.2.ne (h.ea i hi).1.1 (by decide) _ e rfl) (fun j hj hm => by
   rcases hS _ hm with e | e
   ·exact (h.ea i hi).1.2.2.ne hk1.1 (by decide) j hj e
   ·exact (h.nd i k hi hk hik).2 j hj e)
 have T2 := still_setR w1 g 51 (.int .i64 ((used + 1 : Nat) : Int))
 have hp2 := hp_set hp1 51 (.int .i64 ((used + 1 : Nat) : Int))
 rw [show 51 = 50 + 1 from rfl, rwayC_set h.len] at hp2
 refine ⟨(hp_cell hp1 51).trans (rwayC_at h.len 1), fun j => hp_frz hp1 j, ⟨hp2, h.bg, h.len, h.byt, ?_, ?_, fun i hi => ?_, fun i j hi hj hij => ?_⟩⟩
 ·have e : (M.set k (s, nx, bs)).map Prod.fst = M.map Prod.fst := by
   rw [List.map_set]
   refine List.ext_getElem? fun j => ?_
   rw [List.getElem?_set]
   by_cases hjk : k = j
   ·subst hjk
    rw [if_pos rfl, if_pos (by simpa using hk), List.getElem?_map, List.getElem?_eq_getElem hk]
    simp [hs]
   ·rw [if_neg hjk]
  rw [e, List.length_set]
  exact nm1.still T2 (fun _ _ => trivial) (fun j hj hm => nm1.ne hp1 (by decide) j hj (by simpa using hm))
 ·rw [List.length_set]
  exact wi1.still T2 (fun _ _ => trivial) (fun j hj hm => wi1.ne hp1 (by decide) j hj (by simpa using hm))
 ·rw [List.length_set] at hi
  by_cases e : i = k
  ·subst e
   rw [if_pos rfl, if_pos rfl, List.getElem_set_self]
   exact ⟨hR.still T2 (fun hm => hp_ne hR.1 hp1 (by decide) (by simpa using hm)) (fun j hj hm => hR.2.2.ne hp1 (by decide) j hj (by simpa using hm)), hI, hl⟩
  ·rw [if_neg e, if_neg e, List.getElem_set_ne (fun e2 => e e2.symm)]
   exact ⟨(ea1 i hi e).still T2 (fun hm => hp_ne (ea1 i hi e).1 hp1 (by decide) (by simpa using hm)) (fun j hj hm => (ea1 i hi e).2.2.ne hp1 (by decide) j hj (by simpa using hm)), (h.ea i hi).2.1, Nat.le_succ_of_le (h.ea i hi).2.2⟩
 ·rw [List.length_set] at hi hj
  refine ⟨(h.nd i j hi hj hij).1, fun b hb => ?_⟩
  by_cases e1 : i = k
  ·subst e1
   rw [if_pos rfl] at hb
   rw [if_neg (fun e => hij e.symm)]
   intro hb2
   rcases hu b hb with h1 | h1
   ·exact (h.nd i j hi hj hij).2 b h1 hb2
   ·have := (h.ea j hj).1.2.2.lt' b hb2; omega
  ·rw [if_neg e1] at hb
   by_cases e2 : j = k
   ·subst e2
    rw [if_pos rfl]
    intro hb2
    rcases hu b hb2 with h1 | h1
    ·exact (h.nd i j hi hj hij).2 b hb h1
    ·have := (h.ea i hi).1.2.2.lt' b hb; omega
   ·rw [if_neg e2]
    exact (h.nd i j hi hj hij).2 b hb
end
end Go.Proofs.YtikmhlbpefednaaGreat
