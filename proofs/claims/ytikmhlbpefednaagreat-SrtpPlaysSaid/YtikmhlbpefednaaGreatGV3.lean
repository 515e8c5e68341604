/- For the law of packets played: what ways are beside each other; ops from the arguments. No condition but the sizes'. For the law of packets played: both sides' ways as one state. No condition. The walk of the law of packets played. No condition. The law SrtpPlays. No condition. -/
import Derived.Test.YtikmhlbpefednaaGreatSrY
import Derived.Test.YtikmhlbpefednaaGreatGV4
import Derived.Test.YtikmhlbpefednaaGreatSrO
import Derived.Test.YtikmhlbpefednaaGreatRtR
namespace Go.Proofs.YtikmhlbpefednaaGreat
open Go.RowKit
set_option maxRecDepth 100000 in
set_option maxHeartbeats 8000000 in
theorem srgreat2_ok (mk xb cst : Bool) (ix : Int) (at_ fl nr cr : Nat) (sr : Option Addr) (ty sq st so pf pd no co ne ce np cp : Nat) (so_ se sp : Option Addr) (w : World) :
  Calls Tryz.prog 8 #[.agg #[.bool mk, .int .u8 (ty : Nat), .int .u16 (sq : Nat), .int .u32 (st : Nat), .int .u32 (so : Nat), .slice so_ no co, .bool xb, .int .u16 (pf : Nat), .slice se ne ce, .slice sp np cp, .int .u8 (pd : Nat), .int .i64 ix, .bool cst, .int .u16 (at_ : Nat), .int .u8 (fl : Nat), .slice sr nr cr]] w fun e w' => e = .returned (.bool (decide (60 < no ∨ 1500 < ne ∨ 1500 < np ∨ 1500 < nr))) ∧ BW w w' := by
 have BA : BW w (w.alloc (.cells #[.bool mk, .int .u8 (ty : Nat), .int .u16 (sq : Nat), .int .u32 (st : Nat), .int .u32 (so : Nat), .slice so_ no co, .bool xb, .int .u16 (pf : Nat), .slice se ne ce, .slice sp np cp, .int .u8 (pd : Nat), .int .i64 ix, .bool cst, .int .u16 (at_ : Nat), .int .u8 (fl : Nat), .slice sr nr cr] 39)) := (BW.refl w).alloc
 have X := HpB.new w (.cells #[.bool mk, .int .u8 (ty : Nat), .int .u16 (sq : Nat), .int .u32 (st : Nat), .int .u32 (so : Nat), .slice so_ no co, .bool xb, .int .u16 (pf : Nat), .slice se ne ce, .slice sp np cp, .int .u8 (pd : Nat), .int .i64 ix, .bool cst, .int .u16 (at_ : Nat), .int .u8 (fl : Nat), .slice sr nr cr] 39)
 have B := Lib.hid BA
 replace BA := Lib.hid BA
 replace X := Lib.hid X
 go_enter Tryz.func8, Tryz.ntmps8
 go_upto_region 1 with (fail)
 generalize (w.alloc _) = w1 at *
 clear BA
 have z5 := (hp_cell X.out 5).trans (show _ = some (.slice so_ no co) from rfl)
 have z8 := (hp_cell X.out 8).trans (show _ = some (.slice se ne ce) from rfl)
 have z9 := (hp_cell X.out 9).trans (show _ = some (.slice sp np cp) from rfl)
 have z15 := (hp_cell X.out 15).trans (show _ = some (.slice sr nr cr) from rfl)
 clear X
 by_cases h1 : 60 < no
 ·have d1 : decide ((60 : Int) < (no : Int)) = true := by simp; omega
  go_wp2_with fail
  go_ret
  exact ⟨by rw [decide_eq_true (Or.inl h1)]; rfl, B.out⟩
 have d1 : decide ((60 : Int) < (no : Int)) = false := by simp; omega
 by_cases h2 : 1500 < ne
 ·have d2 : decide ((1500 : Int) < (ne : Int)) = true := by simp; omega
  go_wp2_with fail
  go_ret
  exact ⟨by rw [decide_eq_true (Or.inr (Or.inl h2))]; rfl, B.out⟩
 have d2 : decide ((1500 : Int) < (ne : Int)) = false := by simp; omega
 by_cases h3 : 1500 < np
 ·have d3 : decide ((1500 : Int) < (np : Int)) = true := by simp; omega
  go_wp2_with fail
  go_ret
  exact ⟨by rw [decide_eq_true (Or.inr (Or.inr (Or.inl h3)))]; rfl, B.out⟩
 have d3 : decide ((1500 : Int) < (np : Int)) = false := by simp; omega
 by_cases h4 : 1500 < nr
 ·have d4 : decide ((1500 : Int) < (nr : Int)) = true := by simp; omega
  go_wp2_with fail
  go_ret
  exact ⟨by rw [decide_eq_true (Or.inr (Or.inr (Or.inr h4)))]; rfl, B.out⟩
 have d4 : decide ((1500 : Int) < (nr : Int)) = false := by simp; omega
 go_wp2_with fail
 go_ret
 exact ⟨by rw [decide_eq_false (by omega)]; rfl, B.out⟩
set_option maxRecDepth 100000 in
set_option maxHeartbeats 8000000 in
theorem rwnewV_ok (base : Nat) (key salt : List Nat) (lim : Int) (hk : key.length = 16) (hkb : ByL key) (hs : salt.length = 14) (hsb : ByL salt) (w : World) (hbase : base ≤ w.heap.size) :
  Calls Tryz.prog 7 #[.agg (ivA .u8 (key ++ salt)), .int .i64 lim] w fun e w' => ∃ g, e = .returned (.pointer (some ⟨g, 0, none⟩)) ∧ w.heap.size ≤ g ∧ RwV w' base g (keysN key salt 0) lim 0 [] (.slice none 0 0) (.slice none 0 0) [] (fun _ => .slice none 0 0) (fun _ => []) ∧ BW w w' := by
 have ck := fun wz => Lib.hid (show Calls Tryz.prog _ #[.agg (ivA .u8 (key ++ salt)), .int .u8 0] wz _ from rkeys_ok key salt 0 (by decide) hk hkb hs hsb wz)
 have hl := Lib.hid (keysN_len key salt 0)
 have hbl := Lib.hid (keysN_byl key salt 0 hkb)
 have hKl : Hid ((key ++ salt).length = 30) := by simp [Hid, hk, hs]
 generalize keysN key salt 0 = R at *
 generalize key ++ salt = K at *
 replace hk := Lib.hid hk
 replace hkb := Lib.hid hkb
 replace hs := Lib.hid hs
 replace hsb := Lib.hid hsb
 have B := Lib.hid (BW.refl w)
 go_enter Tryz.func7, Tryz.ntmps7
 go_upto_region 1 with (fail)
 have M0 := Lib.hid ((AvB.new w 25 K).bw (show BW (w.alloc (.cells (ivA .u8 K) 25)) (w.alloc (.cells (ivA .u8 K) 25)) from (by repeat (first | exact BW.refl _ | apply BW.alloc | apply BW.drewN | apply BW.drew))))
 generalize hnm : (w.alloc (.cells (ivA .u8 K) 25)) = w1 at *
 have hb : BW w w1 := (by subst hnm; exact (by repeat (first | exact BW.refl _ | apply BW.alloc | apply BW.drewN | apply BW.drew)))
 replace B := Lib.hid (B.out.trans hb)
 clear hb
 clear hnm
 try simp only [World.size_alloc]
 go_wp2_with (refine ldA ar30 rfl rfl (by rfl) M0.out hKl.out ?_)
 refine Calls.mono (ck w1).out ?_
 rintro e w2 ⟨rfl, hb⟩
 have hb : BW w1 w2 := hb
 replace B := Lib.hid (B.out.trans hb)
 replace M0 := Lib.hid (M0.out.bw hb)
 clear hb
 clear ck
 dsimp only
 have hsz : (ivA .u8 R).size = 50 := by rw [ivA_size, hl.out]
 obtain ⟨F, hFe⟩ : ∃ F, ivA .u8 R ++ (#[.int .i64 0, .int .i64 0, .slice none 0 0, .slice none 0 0] : Array Value) = F := ⟨_, rfl⟩
 have hfo := (rway_fold R hl.out).trans hFe
 have hFs : F.size = 54 := by rw [← hFe, Array.size_append, hsz]; rfl
 have hX : Hid (F.setIfInBounds 50 (.int .i64 lim) = ivA .u8 R ++ (#[.int .i64 lim, .int .i64 0, .slice none 0 0, .slice none 0 0] : Array Value)) := by
  show _ = _
  rw [← hFe, rway_cells R hl.out]
 replace hFe := Lib.hid hFe
 obtain ⟨X, hXe⟩ : ∃ X, F.setIfInBounds 50 (.int .i64 lim) = X := ⟨_, rfl⟩
 rw [hXe] at hX
 have BN : BW w2 (w2.alloc (.cells X 52)) := (BW.refl _).alloc
 have H4 := Lib.hid (HpB.new w2 (.cells X 52))
 have B4 := Lib.hid (B.out.trans BN)
 replace BN := Lib.hid BN
 go_wp2_with fail
 go_ret
 refine ⟨w2.heap.size, rfl, B.out.size, ?_, B4.out⟩
 have h4 : HpB (w2.alloc (.cells X 52)) w2.heap.size (.cells (rwayC R lim 0 (.slice none 0 0) (.slice none 0 0)) 52) := by
  have e : X = rwayC R lim 0 (.slice none 0 0) (.slice none 0 0) := hX.out
  rw [← e]
  exact H4.out
 exact ⟨h4, Nat.le_trans hbase B.out.size, hl.out, hbl.out, EQ.nil _ _ _ _, EQ.nil _ _ _ _, (fun i hi => by cases hi), (fun i j hi => by cases hi)⟩
set_option maxRecDepth 100000 in
set_option maxHeartbeats 8000000 in
theorem way_sources (g : Nat) (K : List Nat) (lim : Int) (used gm : Nat) (M : List (Nat × Nat × Nat)) (w : World) (hW : WayV w g K lim used gm M) :
  Calls Tryz.prog 15 #[.pointer (some ⟨g, 0, none⟩)] w fun e w' => e = .returned (.int .i64 (M.length : Nat)) ∧ w = w' := by
 have z2 := hW.map
 have hln := fun ty => (hW.mp).len Tryz.underlying75 ty
 have hml : (winS M).length = M.length := by simp [winS]
 rw [hml] at hln
 clear hW hml
 go_enter Tryz.func15, Tryz.ntmps15
 go_wp2_with fail
 go_ret
 exact ⟨rfl, rfl⟩
set_option maxRecDepth 100000 in
set_option maxHeartbeats 8000000 in
theorem way_high (g : Nat) (K : List Nat) (lim : Int) (used gm : Nat) (M : List (Nat × Nat × Nat)) (s : Nat) (hM : MOk M) (hs : s < 4294967296) (w : World) (hW : WayV w g K lim used gm M) :
  Calls Tryz.prog 16 #[.pointer (some ⟨g, 0, none⟩), .int .u32 (s : Nat)] w fun e w' => e = .returned (.int .i64 (((getW M s).1 : Nat) - 1 : Int)) ∧ BW w w' := by
 have hz : (zeroValue 93).run Tryz.prog w = .ok (.agg #[.int .i64 0, .int .u64 0]) w := by kernel_rfl
 have hlk : (Instr.lookup 75 (.map (some gm)) (.int .u32 (s : Nat)) false).run Tryz.prog w = .ok (.agg #[.int .i64 ((getW M s).1 : Nat), .int .u64 ((getW M s).2 : Nat)]) w := by
  rcases (hW.mp).look u32Law Tryz.underlying75 (winS_keys hM) hz (u32_key s hs) with ⟨v, h1, h2⟩ | ⟨h1, h2⟩
  ·obtain ⟨q, hq, he⟩ := List.mem_map.1 h1
   obtain ⟨q1, qv⟩ := q
   simp only [Prod.mk.injEq, Value.int.injEq, true_and] at he
   obtain ⟨he1, rfl⟩ := he
   obtain rfl : q1 = s := by omega
   obtain ⟨e1, e2⟩ := getW_mem hM.nd hq
   rw [h2 false, if_neg (by decide), e1]
  ·have hn : ∀ p ∈ M, p.1 ≠ s := fun p hp he => by
    refine h1 (.int .u32 (p.1 : Nat), .agg #[.int .i64 (p.2.1 : Nat), .int .u64 (p.2.2 : Nat)]) (List.mem_map.2 ⟨p, hp, rfl⟩) ?_
    rw [he]
   obtain ⟨e1, e2⟩ := getW_none hn
   rw [h2 false, if_neg (by decide), e1]
   rfl
 have z2 := hW.map
 have hgb := getW_b hM s
 generalize getW M s = vb at *
 obtain ⟨nx, bs⟩ := vb
 dsimp only at hlk hgb ⊢
 have BA : BW w (w.alloc (.cells #[.int .i64 (nx : Nat), .int .u64 (bs : Nat)] 93)) := (BW.refl w).alloc
 have c := Lib.hid (whigh_ok w.heap.size nx bs (by omega) (w.alloc (.cells #[.int .i64 (nx : Nat), .int .u64 (bs : Nat)] 93)) (HpB.new w _))
 have B := Lib.hid BA
 clear hW hgb
 replace BA := Lib.hid BA
 go_enter Tryz.func16, Tryz.ntmps16
 go_wp2_with fail
 refine Calls.mono c.out ?_
 rintro e w' ⟨rfl, rfl⟩
 dsimp only
 go_wp2_with fail
 go_ret
 exact ⟨rfl, B.out⟩
theorem SealPost.all {g : Nat} {K : List Nat} {lim : Int} {used gm : Nat} {M : List (Nat × Nat × Nat)} {d : RtpD} {i : Int} {w : World} {e : Ending} {w' : World} (h : SealPost g K lim used gm M d i w e w') (hW : WayV w g K lim used gm M) :
  ∃ (er : Nat) (X : List Nat) (u : Nat) (s : Option Addr) (c : Nat), e = .returned (.tuple #[.slice s X.length c, .int .i64 (er : Nat)]) ∧ OB w' w.heap.size 5 (.slice s X.length c) X.length X ∧ WayV w' g K lim u gm M ∧ Still [g] w w' ∧ u ≤ used + 1 ∧ X.length ≤ 1200 ∧
   ∀ (base gv : Nat) (M' : List (Nat × Nat × Nat)) (vN vW : Value) (ps : List Nat) (v : Nat → Value) (L : Nat → List Nat) (wx : World) (e' : Ending) (wy : World), RSealPost base gv K lim used M' vN vW ps v L d i wx e' wy → RwV wx base gv K lim used M' vN vW ps v L → ∃ (sy : Option Addr) (cy : Nat), e' = .returned (.tuple #[.slice sy X.length cy, .int .i64 (er : Nat)]) ∧ OB wy wx.heap.size 5 (.slice sy X.length cy) X.length X ∧ RwV wy base gv K lim u M' vN vW ps v L ∧ Still [gv] wx wy := by
 rcases h with ⟨h1, rfl, hb⟩ | ⟨h1, h2, rfl, hb⟩ | ⟨h1, h2, s, c, rfl, O, W, T⟩
 ·refine ⟨7, [], used, none, 0, rfl, OB.nil _ _ _, hW.bw hb, hb.still _, Nat.le_succ _, Nat.zero_le _, fun _ _ _ _ _ _ _ _ _ _ _ hp hV => ?_⟩
  rcases hp with ⟨k1, rfl, kb⟩ | ⟨k1, k2, rfl, kb⟩ | ⟨k1, k2, s, c, rfl, O, W, T⟩
  ·exact ⟨none, 0, rfl, OB.nil _ _ _, hV.bw kb, kb.still _⟩
  ·exact absurd h1 k1
  ·exact absurd h1 k1
 ·refine ⟨1, [], used, none, 0, rfl, OB.nil _ _ _, hW.bw hb, hb.still _, Nat.le_succ _, Nat.zero_le _, fun _ _ _ _ _ _ _ _ _ _ _ hp hV => ?_⟩
  rcases hp with ⟨k1, rfl, kb⟩ | ⟨k1, k2, rfl, kb⟩ | ⟨k1, k2, s, c, rfl, O, W, T⟩
  ·exact absurd k1 h1
  ·exact ⟨none, 0, rfl, OB.nil _ _ _, hV.bw kb, kb.still _⟩
  ·exact absurd k2 h2
 ·refine ⟨0, sealB K d i.toNat, used + 1, s, c, rfl, O, W, T, Nat.le_refl _, ?_, fun _ _ _ _ _ _ _ _ _ _ _ hp hV => ?_⟩
  ·have := sealB_len K d i.toNat h2.1
   have := h2.2.1
   omega
  rcases hp with ⟨k1, rfl, kb⟩ | ⟨k1, k2, rfl, kb⟩ | ⟨k1, k2, s', c', rfl, O', W', T'⟩
  ·exact absurd k1 h1
  ·exact absurd h2 k2
  ·exact ⟨s', c', rfl, O', W', T'⟩
section
variable {w w' : World} {base g : Nat} {K : List Nat} {lim : Int} {used : Nat} {M : List (Nat × Nat × Nat)} {vN vW : Value} {ps : List Nat} {v : Nat → Value} {L : Nat → List Nat}
theorem RwV.oth (h : RwV w base g K lim used M vN vW ps v L) {gv : Nat} {c : Array Value} (hV : HpB w gv (.cells c 52)) (hne : gv ≠ g) : ¬ rwBlk g M.length vN vW ps v gv := fun hb => by
 rcases hb with e | hk | hk | ⟨i, hi, e | hk⟩
 ·exact hne e
 ·exact h.nm.ne hV (by decide) gv hk rfl
 ·exact h.wi.ne hV (by decide) gv hk rfl
 ·have h1 := (h.ea i hi).1.1
  rw [← e] at h1
  exact hp_ne hV h1 (by decide) rfl
 ·exact (h.ea i hi).1.2.2.ne hV (by decide) gv hk rfl
theorem RwV.off (h : RwV w base g K lim used M vN vW ps v L) {k : Nat} {c : Array Value} {T : TypeId} {fr : Nat × Nat} (hk : w.heap[k]? = some (.cells c T fr)) (hT : ¬ rwTy T) : ¬ rwBlk g M.length vN vW ps v k := fun hb => by
 obtain ⟨_, _, cs, U, h1, h2⟩ := h.row hb
 rw [hk] at h1
 cases h1
 exact hT h2
theorem RwV.offMap (h : RwV w base g K lim used M vN vW ps v L) {k : Nat} {l : List (Value × Value)} (hk : MapIn w k l) : ¬ rwBlk g M.length vN vW ps v k := fun hb => by
 obtain ⟨_, _, cs, U, h1, h2⟩ := h.row hb
 obtain ⟨es, c, hm, _⟩ := hk
 rw [hm] at h1
 cases h1
theorem RwV.away (h : RwV w base g K lim used M vN vW ps v L) {ga ma u : Nat} {KA : List Nat} {la : Int} {N : List (Nat × Nat × Nat)} (hA : WayV w ga KA la u ma N) {S : List Nat} (hs : Still S w w') (hS : ∀ k ∈ S, k = ga ∨ k = ma) : RwV w' base g K lim used M vN vW ps v L := h.still hs fun k hk => by
 rcases hS k hk with rfl | rfl
 ·exact h.off hA.hp (by unfold rwTy; decide)
 ·exact h.offMap hA.mp
theorem WayV.away {ga ma u : Nat} {KA : List Nat} {la : Int} {N : List (Nat × Nat × Nat)} (hA : WayV w ga KA la u ma N) (h : RwV w base g K lim used M vN vW ps v L) {S : List Nat} (hs : Still S w w') (hS : ∀ k ∈ S, rwBlk g M.length vN vW ps v k) : WayV w' ga KA la u ma N :=
 hA.still hs (fun hm => h.off hA.hp (by unfold rwTy; decide) (hS _ hm)) (fun hm => h.offMap hA.mp (hS _ hm))
theorem WayV.offP {ga ma u : Nat} {KA : List Nat} {la : Int} {N : List (Nat × Nat × Nat)} (hA : WayV w ga KA la u ma N) {k : Nat} {c : Array Value} {T : TypeId} (hP : HpB w k (.cells c T)) (hT : T ≠ 77) : k ≠ ga ∧ k ≠ ma := by
 refine ⟨hp_ne hP hA.hp hT, fun e => ?_⟩
 subst e
 obtain ⟨es, c, hm, _⟩ := hA.mp
 have hP' : w.heap[k]? = _ := hP
 rw [hm] at hP'
 cases hP'
theorem OB.offR {b0 n : Nat} {x : Value} {l : List Nat} (O : OB w b0 5 x n l) (h : RwV w base g K lim used M vN vW ps v L) : ∀ k, x.ownBlock = some k → ¬ rwBlk g M.length vN vW ps v k := fun k hk hb => by
 obtain ⟨_, _, cs, U, h1, h2⟩ := h.row hb
 refine O.2.2.ne h1 (fun e => ?_) k hk rfl
 subst e
 rcases h2 with h | h | h | h | h <;> revert h <;> decide
theorem OB.offW {b0 n : Nat} {x : Value} {l : List Nat} (O : OB w b0 5 x n l) {ga ma u : Nat} {KA : List Nat} {la : Int} {N : List (Nat × Nat × Nat)} (hA : WayV w ga KA la u ma N) : ∀ k, x.ownBlock = some k → k ≠ ga ∧ k ≠ ma := fun k hk => by
 refine ⟨fun e => O.2.2.ne hA.hp (by decide) k hk e, fun e => ?_⟩
 subst e
 obtain ⟨es, c, hm, _⟩ := hA.mp
 obtain ⟨_, ⟨rfl, _⟩ | ⟨g2, o, cap, cur, rfl, _, hh, _⟩⟩ := O.2.2
 ·simp [Value.ownBlock] at hk
 ·simp [Value.ownBlock] at hk
  subst hk
  rw [hm] at hh
  cases hh
end
theorem Rd.sb {w : World} {cs : List Value} (h : Rd w (.loop (.label 4)) cs) : ∃ sa n cp l, cs = [.slice sa n cp] ∧ SB w (.slice sa n cp) n l := by
 obtain ⟨sa, n, cp, rfl⟩ := h.sl
 obtain ⟨l, hl⟩ := SB_of_Rd h
 exact ⟨sa, n, cp, l, rfl, hl⟩
abbrev srOpTy : Ty := .scope (.seq rtpTy (.seq (.label 3) (.seq .ret (.seq (.label 5) (.seq (.label 4) (.seq (.loop (.label 4)) .skip))))))
theorem srop_at {w : World} {a : Option Addr} {len cap : Nat} (h : Rd w (.loop srOpTy) [.slice a len cap]) :
  len ≤ cap ∧ cap ≤ maxLen ∧ (len = 0 ∨ ∃ b o, a = some ⟨b, o, none⟩ ∧ b < w.heap.size ∧ ∀ i, i < len → ∃ (c : Array Value) (d : RtpD) (ix : Int) (cst : Bool) (at_ fl : Nat) (sr : Option Addr) (nr cr : Nat) (r : List Nat), RtpV w c d ∧ RtpWf d ∧ (-9223372036854775808 ≤ ix ∧ ix ≤ 9223372036854775807) ∧ at_ < 65536 ∧ fl < 256 ∧ SB w (.slice sr nr cr) nr r ∧ ∀ j, j < 16 → w.cell? ⟨b, o + i * 16 + j, none⟩ = (c ++ #[.int .i64 ix, .bool cst, .int .u16 (at_ : Nat), .int .u8 (fl : Nat), .slice sr nr cr])[j]?) := by
 obtain ⟨h1, h2, h3⟩ := Rd.slice_at h (by decide)
 refine ⟨h1, h2, ?_⟩
 rcases h3 with ⟨_, h, _⟩ | ⟨_, h, _⟩ | ⟨b, o, rfl, hb, hc, hi⟩
 ·exact .inl h
 ·exact .inl h
 ·right
  refine ⟨b, o, rfl, hb, fun i hil => ?_⟩
  obtain ⟨cs, hl, hr, hx⟩ := hi i (by omega)
  obtain ⟨c1, r1, rfl, hp, c2, r2, rfl, ⟨n2, rfl, hw2⟩, c3, r3, rfl, ⟨b3, rfl⟩, c4, r4, rfl, ⟨n4, rfl, hw4⟩, c5, r5, rfl, ⟨n5, rfl, hw5⟩, c6, r6, rfl, hs, h7⟩ := hr
  have h7' : r6 = [] := h7
  subst h7'
  obtain ⟨sr, nr, cr, r, rfl, hv⟩ := hs.sb
  obtain ⟨d, hV, wf⟩ := RtpV_of_Rd (cs := c1.toArray) (by simpa using hp)
  have b2 := bounds_i64 hw2
  have b4 := bounds_u16 hw4
  have b5 := bounds_u8 hw5
  obtain ⟨m4, rfl⟩ := Int.eq_ofNat_of_zero_le b4.1
  obtain ⟨m5, rfl⟩ := Int.eq_ofNat_of_zero_le b5.1
  refine ⟨c1.toArray, d, n2, b3, m4, m5, sr, nr, cr, r, hV, wf, b2, by omega, by omega, hv, fun j hj => ?_⟩
  rw [← Array.getElem?_toList]
  simp only [Array.toList_append]
  exact hx j hj
end Go.Proofs.YtikmhlbpefednaaGreat

namespace Go.Proofs.YtikmhlbpefednaaGreat
open Go.RowKit
theorem setW_len {M : List (Nat × Nat × Nat)} (s : Nat) (v : Nat × Nat) : (setW M s v).length ≤ M.length + 1 := by
 unfold setW
 split
 ·rw [List.length_map]; omega
 ·rw [List.length_append]; exact Nat.le_refl _
theorem openN_ok {K : List Nat} {lim : Int} {used : Nat} {M : List (Nat × Nat × Nat)} {b : List Nat} (hM : MOk M) (hb : ByL b) (hl : M.length ≤ used) : MOk (openN K lim used M b).2.2 ∧ (openN K lim used M b).2.2.length ≤ (openN K lim used M b).2.1 ∧ (openN K lim used M b).2.1 ≤ used + 1 := by
 unfold openN
 by_cases h1 : (peekN b).2.2 ≠ 0
 ·rw [if_pos h1]; exact ⟨hM, hl, Nat.le_succ _⟩
 rw [if_neg h1]
 by_cases h2 : (freshE lim used M (peekN b).1 (peekN b).2.1).2 ≠ 0
 ·rw [if_pos h2]; exact ⟨hM, hl, Nat.le_succ _⟩
 rw [if_neg h2]
 split
 ·exact ⟨hM, hl, Nat.le_succ _⟩
 dsimp only
 have hp := (peek_in (b := b) (by simpa using h1)).2.2.2
 have hs : (peekN b).1 < 4294967296 := by rw [hp]; exact nm_lt b hb 8 4
 obtain ⟨f1, f2, f3⟩ := fresh_in (by simpa using h2)
 have hg := getW_b hM (peekN b).1
 generalize (freshE lim used M (peekN b).1 (peekN b).2.1).1 = ix at *
 obtain ⟨ii, rfl⟩ : ∃ ii : Nat, ix = (ii : Nat) := ⟨ix.toNat, by omega⟩
 rw [Int.toNat_natCast]
 refine ⟨setW_ok hM _ hs _ ⟨?_, wMark_lt _ _ _ hg.2 f3⟩, Nat.le_trans (setW_len _ _) (by omega), Nat.le_refl _⟩
 unfold wMark
 split
 ·exact hg.1
 ·dsimp only; omega
structure SPJ (w wx : World) (ga ma gb mb gv gw : Nat) (KA KB : List Nat) (lim : Int) (uA uV uB uW : Nat) (MB MW : List (Nat × Nat × Nat)) (vN vW : Value) (ps : List Nat) (v : Nat → Value) (L : Nat → List Nat) : Prop where
 A : WayV wx ga KA lim uA ma []
 B : WayV wx gb KB lim uB mb MB
 V : RwV wx w.heap.size gv KA lim uV [] (.slice none 0 0) (.slice none 0 0) [] (fun _ => .slice none 0 0) (fun _ => [])
 W : RwV wx w.heap.size gw KB lim uW MW vN vW ps v L
 g0 : w.heap.size ≤ ga ∧ w.heap.size ≤ ma ∧ w.heap.size ≤ gb ∧ w.heap.size ≤ mb
 ne : ga ≠ gb ∧ ga ≠ mb ∧ ma ≠ gb ∧ ma ≠ mb
 nv : gv ≠ gw
 bw : BW w wx
section
variable {w wx wy : World} {ga ma gb mb gv gw : Nat} {KA KB : List Nat} {lim : Int} {uA uV uB uW : Nat} {MB MW : List (Nat × Nat × Nat)} {vN vW : Value} {ps : List Nat} {v : Nat → Value} {L : Nat → List Nat}
theorem SPJ.then (h : SPJ w wx ga ma gb mb gv gw KA KB lim uA uV uB uW MB MW vN vW ps v L) (b : BW wx wy) : SPJ w wy ga ma gb mb gv gw KA KB lim uA uV uB uW MB MW vN vW ps v L := ⟨h.A.bw b, h.B.bw b, h.V.bw b, h.W.bw b, h.g0, h.ne, h.nv, h.bw.trans b⟩
theorem SPJ.stA (h : SPJ w wx ga ma gb mb gv gw KA KB lim uA uV uB uW MB MW vN vW ps v L) {u : Nat} (hA : WayV wy ga KA lim u ma []) (T : Still [ga] wx wy) : SPJ w wy ga ma gb mb gv gw KA KB lim u uV uB uW MB MW vN vW ps v L :=
 ⟨hA, h.B.still T (by have := h.ne; simp; omega) (by have := h.ne; simp; omega), h.V.away h.A T (fun k hk => .inl (by simpa using hk)), h.W.away h.A T (fun k hk => .inl (by simpa using hk)), h.g0, h.ne, h.nv, h.bw.stP T (fun k hk => by obtain rfl : k = ga := (by simpa using hk); exact h.g0.1)⟩
theorem SPJ.stB (h : SPJ w wx ga ma gb mb gv gw KA KB lim uA uV uB uW MB MW vN vW ps v L) {u : Nat} {M : List (Nat × Nat × Nat)} (hB : WayV wy gb KB lim u mb M) (T : Still [gb, mb] wx wy) : SPJ w wy ga ma gb mb gv gw KA KB lim uA uV u uW M MW vN vW ps v L :=
 ⟨h.A.still T (by have := h.ne; simp; omega) (by have := h.ne; simp; omega), hB, h.V.away h.B T (fun k hk => by simpa using hk), h.W.away h.B T (fun k hk => by simpa using hk), h.g0, h.ne, h.nv, h.bw.stP T (fun k hk => by have := h.g0; simp at hk; rcases hk with rfl | rfl <;> omega)⟩
theorem SPJ.stV (h : SPJ w wx ga ma gb mb gv gw KA KB lim uA uV uB uW MB MW vN vW ps v L) {u : Nat} (hV : RwV wy w.heap.size gv KA lim u [] (.slice none 0 0) (.slice none 0 0) [] (fun _ => .slice none 0 0) (fun _ => [])) (T : Still [gv] wx wy) : SPJ w wy ga ma gb mb gv gw KA KB lim uA u uB uW MB MW vN vW ps v L :=
 ⟨h.A.away h.V T (fun k hk => .inl (by simpa using hk)), h.B.away h.V T (fun k hk => .inl (by simpa using hk)), hV, h.W.still T (fun k hk => by obtain rfl : k = gv := (by simpa using hk); exact h.W.oth h.V.hp h.nv), h.g0, h.ne, h.nv, h.bw.stP T (fun k hk => by obtain rfl : k = gv := (by simpa using hk); exact h.V.bg)⟩
theorem SPJ.stW (h : SPJ w wx ga ma gb mb gv gw KA KB lim uA uV uB uW MB MW vN vW ps v L) {u : Nat} {M : List (Nat × Nat × Nat)} {vN' vW' : Value} {ps' : List Nat} {v' : Nat → Value} {L' : Nat → List Nat} (hW : RwV wy w.heap.size gw KB lim u M vN' vW' ps' v' L') (T : Still (rwBs gw MW.length vN vW ps v) wx wy) : SPJ w wy ga ma gb mb gv gw KA KB lim uA uV uB u MB M vN' vW' ps' v' L' :=
 have hm : ∀ k ∈ rwBs gw MW.length vN vW ps v, rwBlk gw MW.length vN vW ps v k := fun k hk => (mem_rwBs h.W.wi.1).1 hk
 ⟨h.A.away h.W T hm, h.B.away h.W T hm, h.V.still T (fun k hk hb => by
   rcases hb with e | hk' | hk' | ⟨i, hi, _⟩
   ·subst e; exact h.W.oth h.V.hp h.nv (hm _ hk)
   ·cases hk'
   ·cases hk'
   ·cases hi), hW, h.g0, h.ne, h.nv, h.bw.stP T (fun k hk => (h.W.row (hm k hk)).1)⟩
theorem SPJ.stX (h : SPJ w wx ga ma gb mb gv gw KA KB lim uA uV uB uW MB MW vN vW ps v L) {b0 n q : Nat} {x : Value} {l : List Nat} (O : OB wx b0 5 x n l) (hx : x.ownBlock = some q) (hq : w.heap.size ≤ q) (T : Still [q] wx wy) : SPJ w wy ga ma gb mb gv gw KA KB lim uA uV uB uW MB MW vN vW ps v L :=
 have h1 := O.offW h.A q hx
 have h2 := O.offW h.B q hx
 ⟨h.A.still T (by simp; omega) (by simp; omega), h.B.still T (by simp; omega) (by simp; omega), h.V.still T (fun k hk => by obtain rfl : k = q := (by simpa using hk); exact O.offR h.V k hx), h.W.still T (fun k hk => by obtain rfl : k = q := (by simpa using hk); exact O.offR h.W k hx), h.g0, h.ne, h.nv, h.bw.stP T (fun k hk => by obtain rfl : k = q := (by simpa using hk); exact hq)⟩
end
end Go.Proofs.YtikmhlbpefednaaGreat

namespace Go.Proofs.YtikmhlbpefednaaGreat
open Go.RowKit
set_option maxRecDepth 100000 in
set_option maxHeartbeats 8000000 in
theorem plays_walk (kA sA kB sB : List Nat) (hk1 : kA.length = 16) (hb1 : ByL kA) (hs1 : sA.length = 14) (hc1 : ByL sA) (hk2 : kB.length = 16) (hb2 : ByL kB) (hs2 : sB.length = 14) (hc2 : ByL sB) (lim : Int) (a : Option Addr) (len cap : Nat) (w : World) (hR : Rd w (.loop srOpTy) [.slice a len cap]) :
  Calls Tryz.prog 3 #[.agg (ivA .u8 (kA ++ sA)), .agg (ivA .u8 (kB ++ sB)), .int .i64 lim, .slice a len cap] w fun e w' => e = .returned (.bool true) ∧ BW w w' := by
 have cN1 := fun wz => Lib.hid (way_new kA sA lim hk1 hb1 hs1 hc1 wz)
 have cN2 := fun wz => Lib.hid (way_new kB sB lim hk2 hb2 hs2 hc2 wz)
 have cR1 := fun wz h => Lib.hid (rwnewV_ok w.heap.size kA sA lim hk1 hb1 hs1 hc1 wz h)
 have cR2 := fun wz h => Lib.hid (rwnewV_ok w.heap.size kB sB lim hk2 hb2 hs2 hc2 wz h)
 have hKl1 : Hid ((kA ++ sA).length = 30) := by simp [Hid, hk1, hs1]
 have hKl2 : Hid ((kB ++ sB).length = 30) := by simp [Hid, hk2, hs2]
 obtain ⟨hlc, hcm, hops⟩ := srop_at hR
 unfold maxLen at hcm
 clear hR
 generalize keysN kA sA 0 = KA at *
 generalize keysN kB sB 0 = KB at *
 generalize kA ++ sA = QA at *
 generalize kB ++ sB = QB at *
 clear hk1 hb1 hs1 hc1 hk2 hb2 hs2 hc2
 have cA := fun wz => Lib.hid (srtp_alive wz)
 replace hops := Lib.hid hops
 have B := Lib.hid (BW.refl w)
 go_enter Tryz.func3, Tryz.ntmps3
 go_upto_region 1 with (fail)
 have M0 := Lib.hid ((AvB.new w 25 QA).bw (show BW (w.alloc (.cells (ivA .u8 QA) 25)) ((w.alloc (.cells (ivA .u8 QA) 25)).alloc (.cells (ivA .u8 QB) 25)) from (by repeat (first | exact BW.refl _ | apply BW.alloc | apply BW.drewN | apply BW.drew))))
 have M1 := Lib.hid ((AvB.new (w.alloc (.cells (ivA .u8 QA) 25)) 25 QB).bw (show BW ((w.alloc (.cells (ivA .u8 QA) 25)).alloc (.cells (ivA .u8 QB) 25)) ((w.alloc (.cells (ivA .u8 QA) 25)).alloc (.cells (ivA .u8 QB) 25)) from (by repeat (first | exact BW.refl _ | apply BW.alloc | apply BW.drewN | apply BW.drew))))
 simp only [World.size_alloc] at M1
 generalize hnm : ((w.alloc (.cells (ivA .u8 QA) 25)).alloc (.cells (ivA .u8 QB) 25)) = w1 at *
 have hb : BW w w1 := (by subst hnm; exact (by repeat (first | exact BW.refl _ | apply BW.alloc | apply BW.drewN | apply BW.drew)))
 replace B := Lib.hid (B.out.trans hb)
 clear hb
 clear hnm
 try simp only [World.size_alloc]
 go_wp2_with fail
 refine Calls.mono (cA w1).out ?_
 rintro e w2 ⟨rfl, hb⟩
 have hb : BW w1 w2 := hb
 replace B := Lib.hid (B.out.trans hb)
 replace M0 := Lib.hid (M0.out.bw hb)
 replace M1 := Lib.hid (M1.out.bw hb)
 clear hb
 clear cA
 dsimp only
 go_upto_region 3 with (fail)
 refine wp_region_gg [] [] [] (by kernel_rfl) ?_
 refine hoist [] [] (a1 := ?_) 0 rfl (by kernel_rfl) (.inl ⟨rfl, rfl⟩) rfl rfl rfl (fun x K hK => ?_) ?_
 rotate_left
 ·refine qlA ar30 rfl (by rfl) hKl1.out (fun w' hw => by subst hw; exact M0.out.bw x.bw) (by simp only [Act.put, List.setIfInBounds_toArray, List.set_cons_succ, List.set_cons_zero]; rfl) ?_
  exact hK
 refine hoist [] [] (a1 := ?_) 1 rfl (by kernel_rfl) (.inl ⟨rfl, rfl⟩) rfl rfl rfl (fun x K hK => ?_) ?_
 rotate_left
 ·go_big_quiet_op
  exact hK
 refine hoist [] [] (a1 := ?_) 3 rfl (by kernel_rfl) (.inl ⟨rfl, rfl⟩) rfl rfl rfl (fun x K hK => ?_) ?_
 rotate_left
 ·refine qlA ar30 rfl (by rfl) hKl2.out (fun w' hw => by subst hw; exact M1.out.bw x.bw) (by simp only [Act.put, List.setIfInBounds_toArray, List.set_cons_succ, List.set_cons_zero]; rfl) ?_
  exact hK
 refine hoist [] [] (a1 := ?_) 4 rfl (by kernel_rfl) (.inl ⟨rfl, rfl⟩) rfl rfl rfl (fun x K hK => ?_) ?_
 rotate_left
 ·go_big_quiet_op
  exact hK
 refine effect 2 rfl (by kernel_rfl) (by kernel_rfl) rfl (fun x2 K hK => ?_)
 go_simp
 refine Calls.mono (cN1 x2.now).out ?_
 rintro e w4 ⟨ga, ma, rfl, hga, hma, Wa, hb⟩
 refine hK _ _ (hb.still []) ?_
 clear hK K
 have Ba := Lib.hid (x2.bw.trans hb)
 have hga1 : Hid (w.heap.size ≤ ga ∧ w.heap.size ≤ ma) := by have := B.out.size; have := x2.bw.size; show _ ∧ _; omega
 replace Wa := Lib.hid Wa
 clear hb hga hma cN1
 try simp only [Act.put, List.setIfInBounds_toArray, List.set_cons_succ, List.set_cons_zero]
 refine effect 5 rfl (by kernel_rfl) (by kernel_rfl) rfl (fun x5 K hK => ?_)
 go_simp
 refine Calls.mono (cN2 x5.now).out ?_
 rintro e w5 ⟨gb, mb, rfl, hgb, hmb, Wb, hb⟩
 refine hK _ _ (hb.still []) ?_
 clear hK K
 have hab : Hid (ga ≠ gb ∧ ga ≠ mb ∧ ma ≠ gb ∧ ma ≠ mb) := by
  have := (Wa.out.bw x5.bw).hp.lt
  have := (Wa.out.bw x5.bw).mp.lt
  show _ ∧ _
  omega
 have hgb1 : Hid (w.heap.size ≤ gb ∧ w.heap.size ≤ mb) := by have := B.out.size; have := Ba.out.size; have := x5.bw.size; show _ ∧ _; omega
 replace Wa := Lib.hid (Wa.out.bw (x5.bw.trans hb))
 replace Ba := Lib.hid (Ba.out.trans (x5.bw.trans hb))
 replace Wb := Lib.hid Wb
 clear hb hgb hmb cN2
 try simp only [Act.put, List.setIfInBounds_toArray, List.set_cons_succ, List.set_cons_zero]
 refine hoist [] [] (a1 := ?_) 6 rfl (by kernel_rfl) (.inl ⟨rfl, rfl⟩) rfl rfl rfl (fun x K hK => ?_) ?_
 rotate_left
 ·go_big_quiet_op
  exact hK
 refine hoist [] [] (a1 := ?_) 7 rfl (by kernel_rfl) (.inl ⟨rfl, rfl⟩) rfl rfl rfl (fun x K hK => ?_) ?_
 rotate_left
 ·go_big_quiet_op
  exact hK
 refine done (by kernel_rfl) (fun xr => ?_)
 replace Wa := Lib.hid (Wa.out.bw xr.bw)
 replace Wb := Lib.hid (Wb.out.bw xr.bw)
 replace Ba := Lib.hid (Ba.out.trans xr.bw)
 replace M0 := Lib.hid (M0.out.bw Ba.out)
 replace M1 := Lib.hid (M1.out.bw Ba.out)
 replace B := Lib.hid (B.out.trans Ba.out)
 clear Ba
 generalize xr.now = w3 at *
 go_upto_region 4 with (fail)
 refine wp_region_gg [] [] [] (by kernel_rfl) ?_
 refine hoist [] [] (a1 := ?_) 0 rfl (by kernel_rfl) (.inl ⟨rfl, rfl⟩) rfl rfl rfl (fun x K hK => ?_) ?_
 rotate_left
 ·refine qlA ar30 rfl (by rfl) hKl1.out (fun w' hw => by subst hw; exact M0.out.bw x.bw) (by simp only [Act.put, List.setIfInBounds_toArray, List.set_cons_succ, List.set_cons_zero]; rfl) ?_
  exact hK
 refine hoist [] [] (a1 := ?_) 1 rfl (by kernel_rfl) (.inl ⟨rfl, rfl⟩) rfl rfl rfl (fun x K hK => ?_) ?_
 rotate_left
 ·go_big_quiet_op
  exact hK
 refine hoist [] [] (a1 := ?_) 3 rfl (by kernel_rfl) (.inl ⟨rfl, rfl⟩) rfl rfl rfl (fun x K hK => ?_) ?_
 rotate_left
 ·refine qlA ar30 rfl (by rfl) hKl2.out (fun w' hw => by subst hw; exact M1.out.bw x.bw) (by simp only [Act.put, List.setIfInBounds_toArray, List.set_cons_succ, List.set_cons_zero]; rfl) ?_
  exact hK
 refine hoist [] [] (a1 := ?_) 4 rfl (by kernel_rfl) (.inl ⟨rfl, rfl⟩) rfl rfl rfl (fun x K hK => ?_) ?_
 rotate_left
 ·go_big_quiet_op
  exact hK
 refine effect 2 rfl (by kernel_rfl) (by kernel_rfl) rfl (fun x2 K hK => ?_)
 go_simp
 refine Calls.mono (cR1 x2.now (B.out.trans x2.bw).size).out ?_
 rintro e w4 ⟨gv, rfl, hgv, Wv, hb⟩
 refine hK _ _ (hb.still []) ?_
 clear hK K
 have Bv := Lib.hid (x2.bw.trans hb)
 replace Wv := Lib.hid Wv
 clear hb hgv cR1
 try simp only [Act.put, List.setIfInBounds_toArray, List.set_cons_succ, List.set_cons_zero]
 refine effect 5 rfl (by kernel_rfl) (by kernel_rfl) rfl (fun x5 K hK => ?_)
 go_simp
 refine Calls.mono (cR2 x5.now ((B.out.trans Bv.out).trans x5.bw).size).out ?_
 rintro e w5 ⟨gw, rfl, hgw, Ww, hb⟩
 refine hK _ _ (hb.still []) ?_
 clear hK K
 have hvw : Hid (gv ≠ gw) := by
  have := (Wv.out.bw x5.bw).hp.lt
  show _ ≠ _
  omega
 replace Wv := Lib.hid (Wv.out.bw (x5.bw.trans hb))
 replace Bv := Lib.hid (Bv.out.trans (x5.bw.trans hb))
 replace Ww := Lib.hid Ww
 clear hb hgw cR2
 try simp only [Act.put, List.setIfInBounds_toArray, List.set_cons_succ, List.set_cons_zero]
 refine hoist [] [] (a1 := ?_) 6 rfl (by kernel_rfl) (.inl ⟨rfl, rfl⟩) rfl rfl rfl (fun x K hK => ?_) ?_
 rotate_left
 ·go_big_quiet_op
  exact hK
 refine hoist [] [] (a1 := ?_) 7 rfl (by kernel_rfl) (.inl ⟨rfl, rfl⟩) rfl rfl rfl (fun x K hK => ?_) ?_
 rotate_left
 ·go_big_quiet_op
  exact hK
 refine done (by kernel_rfl) (fun xr => ?_)
 replace Bv := Lib.hid (Bv.out.trans xr.bw)
 have J0 : Hid (SPJ w xr.now ga ma gb mb gv gw KA KB lim 0 0 0 0 [] [] (.slice none 0 0) (.slice none 0 0) [] (fun _ => .slice none 0 0) (fun _ => [])) := ⟨Wa.out.bw Bv.out, Wb.out.bw Bv.out, Wv.out.bw xr.bw, Ww.out.bw xr.bw, by have := hga1.out; have := hgb1.out; omega, hab.out, hvw.out, B.out.trans Bv.out⟩
 clear Wa Wb Wv Ww Bv hga1 hgb1 hab hvw M0 M1 hKl1 hKl2 B
 generalize xr.now = w4 at *
 go_upto_region 6 with (fail)
 go_loopg [13] 30 (fun m' a wx => ∃ (k uA uB : Nat) (M : List (Nat × Nat × Nat)) (vN vW : Value) (ps : List Nat) (v : Nat → Value) (L : Nat → List Nat), m' = 30 - k ∧ k ≤ 30 ∧ a = .int .i64 (k : Nat) ∧ Hid (SPJ w wx ga ma gb mb gv gw KA KB lim uA uA uB uB M M vN vW ps v L ∧ uA ≤ k ∧ uB ≤ k ∧ MOk M ∧ M.length ≤ uB))
 case atStart => exact ⟨0, 0, 0, [], _, _, _, _, _, rfl, by omega, rfl, J0.out, by omega, by omega, MOk.nil, by simp⟩
 case round =>
  clear J0
  obtain ⟨k, uA, uB, M, vN, vW, ps, v, L, rfl, hk30, rfl, hst⟩ := hrel
  have J : Hid (SPJ w wr ga ma gb mb gv gw KA KB lim uA uA uB uB M M vN vW ps v L) := hst.out.1
  have hq : Hid (uA ≤ k ∧ uB ≤ k ∧ MOk M ∧ M.length ≤ uB) := hst.out.2
  clear hst
  by_cases hk : k < len
  rotate_left
  ·have d : decide ((k : Int) < (len : Int)) = false := by simp; omega
   go_wp2_with fail
   go_ret
   exact ⟨rfl, J.out.bw⟩
  have d : decide ((k : Int) < (len : Int)) = true := by simp; omega
  by_cases h30 : k < 30
  rotate_left
  ·have d2 : decide ((k : Int) < 30) = false := by simp; omega
   go_wp2_with fail
   go_ret
   exact ⟨rfl, J.out.bw⟩
  have d2 : decide ((k : Int) < 30) = true := by simp; omega
  obtain ⟨b, o, rfl, hbl, hop⟩ := hops.out.resolve_left (by omega)
  obtain ⟨c, dd, ix, cst, at_, fl, sr, nr, cr, rr, hV, wf, hix, hat, hfl, hr, hcs⟩ := hop k hk
  obtain ⟨so_, co, se, ce, sp, cp, rfl, -, -, -⟩ := hV.open
  simp only [rtpC] at hV hcs
  have hsb := Lib.hid wf.source
  replace hV := Lib.hid hV
  replace wf := Lib.hid wf
  replace hr := Lib.hid hr
  generalize hno : dd.others.length = no at *
  generalize hne : dd.extra.length = ne at *
  generalize hnp : dd.payload.length = np at *
  generalize hdm : dd.marker = mk at *
  generalize hdt : dd.typ = ty at *
  generalize hds : dd.seq = sq at *
  generalize hdst : dd.stamp = st at *
  generalize hdso : dd.source = so at *
  generalize hdx : dd.ext = xb at *
  generalize hdp : dd.profile = pf at *
  generalize hdpd : dd.pad = pd at *
  replace hno := Lib.hid hno
  replace hne := Lib.hid hne
  replace hnp := Lib.hid hnp
  replace hdm := Lib.hid hdm
  replace hdt := Lib.hid hdt
  replace hds := Lib.hid hds
  replace hdst := Lib.hid hdst
  replace hdso := Lib.hid hdso
  replace hdx := Lib.hid hdx
  replace hdp := Lib.hid hdp
  replace hdpd := Lib.hid hdpd
  have z0 : wr.cell? ⟨b, o + k * 16, none⟩ = some (.bool mk) := J.out.bw.cell ((hcs 0 (by decide)).trans rfl)
  have z1 : wr.cell? ⟨b, o + k * 16 + 1, none⟩ = some (.int .u8 (ty : Nat)) := J.out.bw.cell ((hcs 1 (by decide)).trans rfl)
  have z2 : wr.cell? ⟨b, o + k * 16 + 2, none⟩ = some (.int .u16 (sq : Nat)) := J.out.bw.cell ((hcs 2 (by decide)).trans rfl)
  have z3 : wr.cell? ⟨b, o + k * 16 + 3, none⟩ = some (.int .u32 (st : Nat)) := J.out.bw.cell ((hcs 3 (by decide)).trans rfl)
  have z4 : wr.cell? ⟨b, o + k * 16 + 4, none⟩ = some (.int .u32 (so : Nat)) := J.out.bw.cell ((hcs 4 (by decide)).trans rfl)
  have z5 : wr.cell? ⟨b, o + k * 16 + 5, none⟩ = some (.slice so_ no co) := J.out.bw.cell ((hcs 5 (by decide)).trans rfl)
  have z6 : wr.cell? ⟨b, o + k * 16 + 6, none⟩ = some (.bool xb) := J.out.bw.cell ((hcs 6 (by decide)).trans rfl)
  have z7 : wr.cell? ⟨b, o + k * 16 + 7, none⟩ = some (.int .u16 (pf : Nat)) := J.out.bw.cell ((hcs 7 (by decide)).trans rfl)
  have z8 : wr.cell? ⟨b, o + k * 16 + 8, none⟩ = some (.slice se ne ce) := J.out.bw.cell ((hcs 8 (by decide)).trans rfl)
  have z9 : wr.cell? ⟨b, o + k * 16 + 9, none⟩ = some (.slice sp np cp) := J.out.bw.cell ((hcs 9 (by decide)).trans rfl)
  have z10 : wr.cell? ⟨b, o + k * 16 + 10, none⟩ = some (.int .u8 (pd : Nat)) := J.out.bw.cell ((hcs 10 (by decide)).trans rfl)
  have z11 : wr.cell? ⟨b, o + k * 16 + 11, none⟩ = some (.int .i64 ix) := J.out.bw.cell ((hcs 11 (by decide)).trans rfl)
  have z12 : wr.cell? ⟨b, o + k * 16 + 12, none⟩ = some (.bool cst) := J.out.bw.cell ((hcs 12 (by decide)).trans rfl)
  have z13 : wr.cell? ⟨b, o + k * 16 + 13, none⟩ = some (.int .u16 (at_ : Nat)) := J.out.bw.cell ((hcs 13 (by decide)).trans rfl)
  have z14 : wr.cell? ⟨b, o + k * 16 + 14, none⟩ = some (.int .u8 (fl : Nat)) := J.out.bw.cell ((hcs 14 (by decide)).trans rfl)
  have z15 : wr.cell? ⟨b, o + k * 16 + 15, none⟩ = some (.slice sr nr cr) := J.out.bw.cell ((hcs 15 (by decide)).trans rfl)
  clear hcs hop
  go_upto_region 8 with (fail)
  clear d d2
  go_upto_region 9 with (fail)
  clear z0 z1 z2 z3 z4 z5 z6 z7 z8 z9 z10 z11 z12 z13 z14 z15
  have BA : BW wr (wr.alloc (.cells #[.bool mk, .int .u8 (ty : Nat), .int .u16 (sq : Nat), .int .u32 (st : Nat), .int .u32 (so : Nat), .slice so_ no co, .bool xb, .int .u16 (pf : Nat), .slice se ne ce, .slice sp np cp, .int .u8 (pd : Nat), .int .i64 ix, .bool cst, .int .u16 (at_ : Nat), .int .u8 (fl : Nat), .slice sr nr cr] 39)) := (BW.refl _).alloc
  have P := Lib.hid (HpB.new wr (.cells #[.bool mk, .int .u8 (ty : Nat), .int .u16 (sq : Nat), .int .u32 (st : Nat), .int .u32 (so : Nat), .slice so_ no co, .bool xb, .int .u16 (pf : Nat), .slice se ne ce, .slice sp np cp, .int .u8 (pd : Nat), .int .i64 ix, .bool cst, .int .u16 (at_ : Nat), .int .u8 (fl : Nat), .slice sr nr cr] 39))
  have hgp := Lib.hid J.out.bw.size
  replace J := Lib.hid (J.out.then BA)
  replace BA := Lib.hid BA
  generalize wr.alloc _ = w5 at *
  generalize wr.heap.size = gp at *
  clear BA
  have z0 := hp_cell (P.out) 0
  have z1 := hp_cell (P.out) 1
  have z2 := hp_cell (P.out) 2
  have z3 := hp_cell (P.out) 3
  have z4 := hp_cell (P.out) 4
  have z5 := hp_cell (P.out) 5
  have z6 := hp_cell (P.out) 6
  have z7 := hp_cell (P.out) 7
  have z8 := hp_cell (P.out) 8
  have z9 := hp_cell (P.out) 9
  have z10 := hp_cell (P.out) 10
  have z11 := hp_cell (P.out) 11
  have z12 := hp_cell (P.out) 12
  have z13 := hp_cell (P.out) 13
  have z14 := hp_cell (P.out) 14
  have z15 := hp_cell (P.out) 15
  simp only [List.getElem?_toArray, List.getElem?_cons_zero, List.getElem?_cons_succ] at z0 z1 z2 z3 z4 z5 z6 z7 z8 z9 z10 z11 z12 z13 z14 z15
  go_wp2_with fail
  refine Calls.mono (srgreat2_ok mk xb cst ix at_ fl nr cr sr ty sq st so pf pd no co ne ce np cp so_ se sp w5) ?_
  rintro e w6 ⟨rfl, hb⟩
  clear z0 z1 z2 z3 z4 z5 z6 z7 z8 z9 z10 z11 z12 z13 z14 z15
  replace P := Lib.hid (P.out.bw hb)
  replace J := Lib.hid (J.out.then hb)
  clear hb
  dsimp only
  by_cases hg : 60 < no ∨ 1500 < ne ∨ 1500 < np ∨ 1500 < nr
  ·rw [decide_eq_true hg]
   go_wp2_with fail
   go_ret
   exact ⟨rfl, J.out.bw⟩
  rw [decide_eq_false hg]
  have hsm : Hid (np ≤ 1500 ∧ nr ≤ 1500) := by show _ ∧ _; omega
  clear hg
  have z0 := hp_cell (P.out) 0
  have z1 := hp_cell (P.out) 1
  have z2 := hp_cell (P.out) 2
  have z3 := hp_cell (P.out) 3
  have z4 := hp_cell (P.out) 4
  have z5 := hp_cell (P.out) 5
  have z6 := hp_cell (P.out) 6
  have z7 := hp_cell (P.out) 7
  have z8 := hp_cell (P.out) 8
  have z9 := hp_cell (P.out) 9
  have z10 := hp_cell (P.out) 10
  have z11 := hp_cell (P.out) 11
  have z12 := hp_cell (P.out) 12
  have z13 := hp_cell (P.out) 13
  have z14 := hp_cell (P.out) 14
  have z15 := hp_cell (P.out) 15
  simp only [List.getElem?_toArray, List.getElem?_cons_zero, List.getElem?_cons_succ] at z0 z1 z2 z3 z4 z5 z6 z7 z8 z9 z10 z11 z12 z13 z14 z15
  have cS := Lib.hid (seal_ok ga KA lim uA ma [] _ dd ix hix (by have := hq.out; omega) w6 J.out.A (hV.out.bw J.out.bw) wf.out (by have := hnp.out; have := hsm.out; omega))
  go_upto_region 11 with (fail)
  go_wp2_with fail
  refine Calls.mono cS.out ?_
  rintro e w7 hp
  clear cS
  obtain ⟨er, X, u, s1, c1, rfl, O1, A1, T1, hu1, hXl, hvv⟩ := hp.all J.out.A
  clear hp
  clear z0 z1 z2 z3 z4 z5 z6 z7 z8 z9 z10 z11 z12 z13 z14 z15
  replace P := Lib.hid (P.out.st T1 (fun hm => hp_ne P.out J.out.A.hp (by decide) (by simpa using hm)))
  replace J := Lib.hid (J.out.stA A1 T1)
  replace O1 := Lib.hid O1
  replace hu1 := Lib.hid hu1
  replace hvv := Lib.hid hvv
  clear T1 A1
  dsimp only
  have z0 := hp_cell (P.out) 0
  have z1 := hp_cell (P.out) 1
  have z2 := hp_cell (P.out) 2
  have z3 := hp_cell (P.out) 3
  have z4 := hp_cell (P.out) 4
  have z5 := hp_cell (P.out) 5
  have z6 := hp_cell (P.out) 6
  have z7 := hp_cell (P.out) 7
  have z8 := hp_cell (P.out) 8
  have z9 := hp_cell (P.out) 9
  have z10 := hp_cell (P.out) 10
  have z11 := hp_cell (P.out) 11
  have z12 := hp_cell (P.out) 12
  have z13 := hp_cell (P.out) 13
  have z14 := hp_cell (P.out) 14
  have z15 := hp_cell (P.out) 15
  simp only [List.getElem?_toArray, List.getElem?_cons_zero, List.getElem?_cons_succ] at z0 z1 z2 z3 z4 z5 z6 z7 z8 z9 z10 z11 z12 z13 z14 z15
  have cS := Lib.hid (rseal_ok w.heap.size gv KA lim uA [] _ _ _ _ _ _ dd ix hix (by have := hq.out; omega) w7 J.out.V (hV.out.bw J.out.bw) wf.out (by have := hnp.out; have := hsm.out; omega))
  go_upto_region 12 with (fail)
  go_wp2_with fail
  refine Calls.mono cS.out ?_
  rintro e w8 hp
  clear cS
  obtain ⟨s2, c2, rfl, O2, V2, T2⟩ := hvv.out _ _ _ _ _ _ _ _ _ _ _ hp J.out.V
  clear hp hvv
  clear z0 z1 z2 z3 z4 z5 z6 z7 z8 z9 z10 z11 z12 z13 z14 z15
  replace O1 := Lib.hid (O1.out.still T2 (fun j hj hm => O1.out.offR J.out.V j hj (by obtain rfl : j = gv := (by simpa using hm); exact .inl rfl)))
  replace P := Lib.hid (P.out.st T2 (fun hm => J.out.V.off P.out (by unfold rwTy; decide) (by obtain rfl : gp = gv := (by simpa using hm); exact .inl rfl)))
  replace J := Lib.hid (J.out.stV V2 T2)
  replace O2 := Lib.hid O2
  clear T2 V2
  dsimp only
  have E1 : ∀ y : LaterS [] w8, _ := fun y => conv_sb (O1.out.bw y.bw).sb
  have E2 : ∀ y : LaterS [] w8, _ := fun y => conv_sb (O2.out.bw y.bw).sb
  generalize bstr X = SX at *
  have hSS : (SX.toList == SX.toList) = true := by simp
  have l16 : ∀ y : LaterS [] w8, y.now.cell? ⟨gv, 51, none⟩ = some (.int .i64 (u : Nat)) := fun y => (J.out.V.bw y.bw).usd
  go_upto_region 13 with (fail)
  refine wp_region_gg [] [] [] (by kernel_rfl) ?_
  refine hoist [] [] (a1 := ?_) 0 rfl (by kernel_rfl) (.inl ⟨rfl, rfl⟩) rfl rfl rfl (fun x K hK => ?_) ?_
  rotate_left
  ·go_big_quiet_op
   exact hK
  refine hoist [] [] (a1 := ?_) 1 rfl (by kernel_rfl) (.inl ⟨rfl, rfl⟩) rfl rfl rfl (fun x K hK => ?_) ?_
  rotate_left
  ·go_big_quiet_op
   exact hK
  refine hoist [] [] (a1 := ?_) 2 rfl (by kernel_rfl) (.inl ⟨rfl, rfl⟩) rfl rfl rfl (fun x K hK => ?_) ?_
  rotate_left
  ·go_big_quiet_op
   exact hK
  refine hoist [] [] (a1 := ?_) 3 rfl (by kernel_rfl) (.inl ⟨rfl, rfl⟩) rfl rfl rfl (fun x K hK => ?_) ?_
  rotate_left
  ·go_big_quiet_op
   exact hK
  refine hoist [] [] (a1 := ?_) 4 rfl (by kernel_rfl) (.inl ⟨rfl, rfl⟩) rfl rfl rfl (fun x K hK => ?_) ?_
  rotate_left
  ·go_big_quiet_op
   exact hK
  refine hoist [] [] (a1 := ?_) 5 rfl (by kernel_rfl) (.inl ⟨rfl, rfl⟩) rfl rfl rfl (fun x K hK => ?_) ?_
  rotate_left
  ·go_big_quiet_op
   exact hK
  refine hoist [] [] (a1 := ?_) 6 rfl (by kernel_rfl) (.inl ⟨rfl, rfl⟩) rfl rfl rfl (fun x K hK => ?_) ?_
  rotate_left
  ·go_big_quiet_op
   exact hK
  refine hoist [] [] (a1 := ?_) 7 rfl (by kernel_rfl) (.inl ⟨rfl, rfl⟩) rfl rfl rfl (fun x K hK => ?_) ?_
  rotate_left
  ·go_big_quiet_op
   exact hK
  refine hoist [] [] (a1 := ?_) 8 rfl (by kernel_rfl) (.inl ⟨rfl, rfl⟩) rfl rfl rfl (fun x K hK => ?_) ?_
  rotate_left
  ·go_big_quiet_op
   exact hK
  refine hoist [] [] (a1 := ?_) 9 rfl (by kernel_rfl) (.inl ⟨rfl, rfl⟩) rfl rfl rfl (fun x K hK => ?_) ?_
  rotate_left
  ·go_big_quiet_op
   exact hK
  refine hoist [] [] (a1 := ?_) 10 rfl (by kernel_rfl) (.inl ⟨rfl, rfl⟩) rfl rfl rfl (fun x K hK => ?_) ?_
  rotate_left
  ·go_big_quiet_op
   exact hK
  refine hoist [] [] (a1 := ?_) 11 rfl (by kernel_rfl) (.inl ⟨rfl, rfl⟩) rfl rfl rfl (fun x K hK => ?_) ?_
  rotate_left
  ·go_big_quiet_op
   exact hK
  refine hoist_call [] [] (a1 := ?_) 12 rfl (by kernel_rfl) (.inl ⟨rfl, rfl⟩) rfl rfl rfl (fun x K hK => ?_) ?_
  rotate_left
  ·go_big_quiet_op
   apply Exists.intro
   refine ⟨fun y => ?_, ?_⟩
   ·exact ((way_used ga KA lim u ma [] y.now (J.out.A.bw (x.bw.trans y.bw))).mono fun _ _ h => ⟨h.1, y, h.2.symm⟩)
   ·exact hK
  refine hoist [] [] (a1 := ?_) 13 rfl (by kernel_rfl) (.inl ⟨rfl, rfl⟩) rfl rfl rfl (fun x K hK => ?_) ?_
  rotate_left
  ·go_big_quiet_op
   exact hK
  refine hoist [] [] (a1 := ?_) 14 rfl (by kernel_rfl) (.inl ⟨rfl, rfl⟩) rfl rfl rfl (fun x K hK => ?_) ?_
  rotate_left
  ·go_big_quiet_op
   exact hK
  refine hoist [] [] (a1 := ?_) 15 rfl (by kernel_rfl) (.inl ⟨rfl, rfl⟩) rfl rfl rfl (fun x K hK => ?_) ?_
  rotate_left
  ·go_big_quiet_op
   exact hK
  refine hoist [] [] (a1 := ?_) 16 rfl (by kernel_rfl) (.inl ⟨rfl, rfl⟩) rfl rfl rfl (fun x K hK => ?_) ?_
  rotate_left
  ·go_big_quiet_op
   exact hK
  refine hoist [] [] (a1 := ?_) 17 rfl (by kernel_rfl) (.inl ⟨rfl, rfl⟩) rfl rfl rfl (fun x K hK => ?_) ?_
  rotate_left
  ·go_big_quiet_op
   exact hK
  refine hoist [] [] (a1 := ?_) 18 rfl (by kernel_rfl) (.inl ⟨rfl, rfl⟩) rfl rfl rfl (fun x K hK => ?_) ?_
  rotate_left
  ·go_big_quiet_op
   exact hK
  refine done (by kernel_rfl) (fun xr => ?_)
  replace P := Lib.hid (P.out.bw xr.bw)
  replace J := Lib.hid (J.out.then xr.bw)
  replace O1 := Lib.hid (O1.out.bw xr.bw)
  clear E1 E2 hSS l16 O2
  generalize xr.now = w9 at *
  have z15 := (hp_cell P.out 15).trans (show _ = some (.slice sr nr cr) from rfl)
  go_upto_if 95 with (fail)
  go_cut [15] (fun x wc => ∃ (sx : Option Addr) (nx cx : Nat) (bx : List Nat), x = .slice sx nx cx ∧ nx ≤ 1500 ∧ Hid (SB wc (.slice sx nx cx) nx bx) ∧ wc = w9)
  case first =>
   by_cases h0 : 0 < nr
   ·have d : decide ((0 : Int) < (nr : Int)) = true := by simp; omega
    go_wp2_with fail
    go_meet
    exact ⟨sr, nr, cr, rr, rfl, hsm.out.2, hr.out.bw J.out.bw, rfl⟩
   ·have d : decide ((0 : Int) < (nr : Int)) = false := by simp; omega
    go_wp2_with fail
    go_meet
    exact ⟨s1, X.length, c1, X, rfl, by omega, O1.out.sb, rfl⟩
  case rest =>
  as_aux_lemma =>
  obtain ⟨sx, nx, cx, bx, rfl, hnx, Vx, rfl⟩ := hcut
  clear z15 O1
  have z12 := (hp_cell P.out 12).trans (show _ = some (.bool cst) from rfl)
  by_cases hc : cst = true
  rotate_left
  ·have hc' : cst = false := by simpa using hc
   rw [hc'] at z12
   go_wp2_with fail
   go_roundg (30 - (k + 1))
   case measure => omega
   case rel => exact ⟨k + 1, u, uB, M, vN, vW, ps, v, L, rfl, by omega, by push_cast; rfl, J.out, by have := hq.out; have := hu1.out; omega, by have := hq.out; omega, hq.out.2.2.1, hq.out.2.2.2⟩
  rw [hc] at z12
  by_cases hn0 : nx = 0
  ·have d : ((nx : Int) == 0) = true := by simp; omega
   go_wp2_with fail
   go_roundg (30 - (k + 1))
   case measure => omega
   case rel => exact ⟨k + 1, u, uB, M, vN, vW, ps, v, L, rfl, by omega, by push_cast; rfl, J.out, by have := hq.out; have := hu1.out; omega, by have := hq.out; omega, hq.out.2.2.1, hq.out.2.2.2⟩
  have d : ((nx : Int) == 0) = false := by simp; omega
  go_upto_region 18 with (fail)
  clear z12 d
  have B := Lib.hid J.out.bw
  have B0 := Lib.hid B.out.size
  have hnx1 : nx ≤ 1000000 := by omega
  obtain ⟨_, _, he, hcx, hmx⟩ := Vx.out.len
  cases he
  unfold maxLen at hmx
  go_upto_region 19 with (at_builtin; go_must (refine wpList_apOB rfl _ _ rfl w.heap.size _ _ _ rfl (OB.new0 wc w.heap.size B.out.size) _ rfl _ _ (Vx.out.bw (BW.refl _).alloc) (by omega) (BW.trans B.out (by repeat (first | exact BW.refl _ | apply BW.alloc | apply BW.drewN | apply BW.drew))).size ?_; intro s3 c3 w10 hcc3 hmc3 O3 hT hb hG; unfold maxLen at hmc3; replace hG := Lib.hid hG; replace hT := Lib.hid hT; skip))
  replace B := Lib.hid (BW.step (BW.trans B.out (by repeat (first | exact BW.refl _ | apply BW.alloc | apply BW.drewN | apply BW.drew))) hb (Nat.le_refl _))
  replace O3 := Lib.hid O3
  clear hb
  simp only [Nat.zero_add, List.nil_append] at O3 hcc3
  have hb10 : BW wc w10 := ((BW.refl wc).alloc (o := .cells #[] 5)).stP (show Still (Value.slice (some ⟨wc.heap.size, 0, none⟩) 0 0).ownBlock.toList _ w10 from hT.out) (fun j hj => by have e : j = wc.heap.size := (by simpa [Value.ownBlock] using hj); omega)
  replace P := Lib.hid (P.out.bw hb10)
  replace J := Lib.hid (J.out.then hb10)
  clear hT hG Vx B B0 hb10
  obtain ⟨q, oo, cap', he, hgb, hgl', hc1, hc2, hcell, hfz⟩ := O3.out.form (by omega)
  cases he
  have hjn := Nat.mod_lt at_ (show nx > 0 by omega)
  obtain ⟨j, ej, hj⟩ : ∃ j : Nat, (at_ : Int) % (nx : Int) = (j : Int) ∧ j < nx := ⟨at_ % nx, by simp, hjn⟩
  have hcj := hcell j hj
  have hy := O3.out.2.1.get j
  generalize bx.getD j 0 = y at *
  have e1 : bits .xor .u8 (y : Int) (fl : Int) = ((y ^^^ fl : Nat) : Int) := u8_xor_nat y fl hy hfl
  have hy1 : y ^^^ fl < 256 := Nat.xor_lt_two_pow (n := 8) hy hfl
  generalize y ^^^ fl = y1 at *
  have l1 : ∀ x : LaterS [] w10, x.now.cell? ⟨q, oo + j, none⟩ = some (.int .u8 (y : Nat)) := fun x => x.cell hcj (by simp)
  have l2 : ∀ x : LaterS [] w10, x.now.frozen? ⟨q, oo + j, none⟩ = false := fun x => by
   obtain ⟨g', o', cap', he, _, _, _, _, _, hf⟩ := (O3.out.bw x.bw).form (by omega)
   cases he
   exact hf _
  have l13 : ∀ x : LaterS [] w10, _ := fun x => (hp_cell (P.out.bw x.bw) 13).trans (show _ = some (.int .u16 (at_ : Nat)) from rfl)
  have l14 : ∀ x : LaterS [] w10, _ := fun x => (hp_cell (P.out.bw x.bw) 14).trans (show _ = some (.int .u8 (fl : Nat)) from rfl)
  have j1 : (0 : Int) ≤ (j : Int) := by omega
  have j2 : (j : Int) < (nx : Int) := by omega
  have n0 : (0 : Int) < (nx : Int) := by omega
  have ha5 : (at_ : Int) ≤ 65535 := by omega
  clear hcell hfz hcj hjn
  try simp only [Act.put, List.setIfInBounds_toArray, List.set_cons_succ, List.set_cons_zero]
  as_aux_lemma =>
  refine wp_region_gg [] [] [20] (by kernel_rfl) ?_
  refine hoist [] [] (a1 := ?_) 0 rfl (by kernel_rfl) (.inl ⟨rfl, rfl⟩) rfl rfl rfl (fun x K hK => ?_) ?_
  rotate_left
  ·go_big_quiet_op
   exact hK
  refine hoist [] [] (a1 := ?_) 1 rfl (by kernel_rfl) (.inl ⟨rfl, rfl⟩) rfl rfl rfl (fun x K hK => ?_) ?_
  rotate_left
  ·go_big_quiet_op
   exact hK
  refine hoist [] [] (a1 := ?_) 2 rfl (by kernel_rfl) (.inl ⟨rfl, rfl⟩) rfl rfl rfl (fun x K hK => ?_) ?_
  rotate_left
  ·go_big_quiet_op
   exact hK
  refine hoist [] [] (a1 := ?_) 3 rfl (by kernel_rfl) (.inl ⟨rfl, rfl⟩) rfl rfl rfl (fun x K hK => ?_) ?_
  rotate_left
  ·go_big_quiet_op
   exact hK
  refine hoist [] [] (a1 := ?_) 4 rfl (by kernel_rfl) (.inl ⟨rfl, rfl⟩) rfl rfl rfl (fun x K hK => ?_) ?_
  rotate_left
  ·go_big_quiet_op
   exact hK
  refine hoist [] [] (a1 := ?_) 5 rfl (by kernel_rfl) (.inl ⟨rfl, rfl⟩) rfl rfl rfl (fun x K hK => ?_) ?_
  rotate_left
  ·go_big_quiet_op
   exact hK
  refine hoist [] [] (a1 := ?_) 6 rfl (by kernel_rfl) (.inl ⟨rfl, rfl⟩) rfl rfl rfl (fun x K hK => ?_) ?_
  rotate_left
  ·go_big_quiet_op
   exact hK
  refine hoist [] [] (a1 := ?_) 7 rfl (by kernel_rfl) (.inl ⟨rfl, rfl⟩) rfl rfl rfl (fun x K hK => ?_) ?_
  rotate_left
  ·go_big_quiet_op
   exact hK
  refine hoist [] [] (a1 := ?_) 8 rfl (by kernel_rfl) (.inl ⟨rfl, rfl⟩) rfl rfl rfl (fun x K hK => ?_) ?_
  rotate_left
  ·go_big_quiet_op
   exact hK
  refine hoist [] [] (a1 := ?_) 9 rfl (by kernel_rfl) (.inl ⟨rfl, rfl⟩) rfl rfl rfl (fun x K hK => ?_) ?_
  rotate_left
  ·go_big_quiet_op
   exact hK
  refine hoist [] [] (a1 := ?_) 10 rfl (by kernel_rfl) (.inl ⟨rfl, rfl⟩) rfl rfl rfl (fun x K hK => ?_) ?_
  rotate_left
  ·go_big_quiet_op
   exact hK
  refine hoist [] [] (a1 := ?_) 11 rfl (by kernel_rfl) (.inl ⟨rfl, rfl⟩) rfl rfl rfl (fun x K hK => ?_) ?_
  rotate_left
  ·go_big_quiet_op
   exact hK
  refine hoist [] [] (a1 := ?_) 12 rfl (by kernel_rfl) (.inl ⟨rfl, rfl⟩) rfl rfl rfl (fun x K hK => ?_) ?_
  rotate_left
  ·go_big_quiet_op
   exact hK
  refine hoist [] [] (a1 := ?_) 13 rfl (by kernel_rfl) (.inl ⟨rfl, rfl⟩) rfl rfl rfl (fun x K hK => ?_) ?_
  rotate_left
  ·go_big_quiet_op
   exact hK
  refine hoist [] [] (a1 := ?_) 14 rfl (by kernel_rfl) (.inl ⟨rfl, rfl⟩) rfl rfl rfl (fun x K hK => ?_) ?_
  rotate_left
  ·go_big_quiet_op
   exact hK
  refine hoist [] [] (a1 := ?_) 15 rfl (by kernel_rfl) (.inl ⟨rfl, rfl⟩) rfl rfl rfl (fun x K hK => ?_) ?_
  rotate_left
  ·go_big_quiet_op
   exact hK
  refine hoist [] [] (a1 := ?_) 16 rfl (by kernel_rfl) (.inl ⟨rfl, rfl⟩) rfl rfl rfl (fun x K hK => ?_) ?_
  rotate_left
  ·go_big_quiet_op
   exact hK
  refine hoist [] [] (a1 := ?_) 17 rfl (by kernel_rfl) (.inl ⟨rfl, rfl⟩) rfl rfl rfl (fun x K hK => ?_) ?_
  rotate_left
  ·go_big_quiet_op
   exact hK
  refine hoist [] [] (a1 := ?_) 18 rfl (by kernel_rfl) (.inl ⟨rfl, rfl⟩) rfl rfl rfl (fun x K hK => ?_) ?_
  rotate_left
  ·go_big_quiet_op
   exact hK
  refine hoist [] [] (a1 := ?_) 19 rfl (by kernel_rfl) (.inl ⟨rfl, rfl⟩) rfl rfl rfl (fun x K hK => ?_) ?_
  rotate_left
  ·go_big_quiet_op
   exact hK
  refine tail 20 rfl (by kernel_rfl) rfl (fun xr => ?_)
  simp only [List.drop_succ_cons, List.drop_zero]
  have O5 := Lib.hid ((O3.out.bw xr.bw).set j hj y1 hy1)
  have T5 := still_sc xr.now q (oo + j) (.int .u8 (y1 : Nat))
  have J5 := Lib.hid ((J.out.then xr.bw).stX (O3.out.bw xr.bw) rfl hgb T5)
  have P5 := Lib.hid ((P.out.bw xr.bw).st T5 (fun hm => (O3.out.bw xr.bw).2.2.ne (P.out.bw xr.bw) (by decide) q rfl (by simpa [eq_comm] using hm)))
  go_upto_region 20 with (fail)
  clear T5 l1 l2 l13 l14 O3 J P ej e1 j1 j2 n0 ha5 hc1 hc2
  generalize xr.now.setCell ⟨q, oo + j, none⟩ (.int .u8 (y1 : Nat)) = w11 at *
  generalize hX' : bx.set j y1 = X' at *
  clear hX'
  have hR := openN_ok (K := KB) (lim := lim) (used := uB) (M := M) (b := X') hq.out.2.2.1 O5.out.2.1 hq.out.2.2.2
  have cO := Lib.hid (open_ok gb KB lim uB mb M (some ⟨q, oo, none⟩) nx c3 X' hq.out.2.2.1 hnx1 (by have := hq.out; omega) w11 J5.out.B O5.out.sb (O5.out.offW J5.out.B))
  have cW := fun wz hz hW hv hvo => Lib.hid (ropen_ok w.heap.size gw KB lim uB M vN vW ps v L (some ⟨q, oo, none⟩) nx c3 X' hq.out.2.2.1 (by have := hq.out; omega) hnx1 (by have := hq.out; omega) wz hz hW hv hvo)
  generalize openN KB lim uB M X' = R at *
  obtain ⟨⟨er2, ix2, dq⟩, u2, M2⟩ := R
  dsimp only at hR
  replace hR := Lib.hid hR
  as_aux_lemma =>
  go_wp2_with fail
  refine Calls.mono cO.out ?_
  rintro e w12 hp
  obtain ⟨so3, co3, se3, ce3, sp3, cp3, rfl, Oq, Wb, T12⟩ := hp.form
  clear hp cO
  have hrow := Lib.hid (fun k hk => (J5.out.W.row (k := k) hk).2.1)
  have J12 := Lib.hid (J5.out.stB Wb T12)
  have P12 := Lib.hid (P5.out.st T12 (fun hm => by have := J5.out.B.offP P5.out (by decide); simp at hm; omega))
  have O12 := Lib.hid (O5.out.still T12 (fun j hj hm => by have := O5.out.offW J5.out.B j hj; simp at hm; omega))
  clear J5 P5 O5 Wb T12
  simp only [rtpC] at Oq ⊢
  have BA : BW w12 (w12.alloc (.cells #[.bool dq.marker, .int .u8 (dq.typ : Nat), .int .u16 (dq.seq : Nat), .int .u32 (dq.stamp : Nat), .int .u32 (dq.source : Nat), .slice so3 dq.others.length co3, .bool dq.ext, .int .u16 (dq.profile : Nat), .slice se3 dq.extra.length ce3, .slice sp3 dq.payload.length cp3, .int .u8 (dq.pad : Nat)] 37)) := (BW.refl _).alloc
  have Q := Lib.hid (HpB.new w12 (.cells #[.bool dq.marker, .int .u8 (dq.typ : Nat), .int .u16 (dq.seq : Nat), .int .u32 (dq.stamp : Nat), .int .u32 (dq.source : Nat), .slice so3 dq.others.length co3, .bool dq.ext, .int .u16 (dq.profile : Nat), .slice se3 dq.extra.length ce3, .slice sp3 dq.payload.length cp3, .int .u8 (dq.pad : Nat)] 37))
  replace J12 := Lib.hid (J12.out.then BA)
  replace P12 := Lib.hid (P12.out.bw BA)
  replace O12 := Lib.hid (O12.out.bw BA)
  replace Oq := Lib.hid (Oq.bw BA)
  replace BA := Lib.hid BA
  go_upto_region 21 with (fail)
  generalize (w12.alloc _) = w13 at *
  generalize w12.heap.size = gq at *
  clear BA
  as_aux_lemma =>
  go_wp2_with fail
  refine Calls.mono (cW w13 J12.out.bw.size J12.out.W O12.out.sb (O12.out.offR J12.out.W)).out ?_
  rintro e w14 ⟨⟨c5, rfl, Or⟩, ⟨vN2, vW2, ps2, v2, L2, Ww⟩, T14⟩
  clear cW
  dsimp only at Ww Or ⊢
  obtain ⟨so5, co5, se5, ce5, sp5, cp5, rfl, -, -, -⟩ := Or.open
  have hmr : ∀ j ∈ rwBs gw M.length vN vW ps v, rwBlk gw M.length vN vW ps v j := fun j hj => (mem_rwBs J12.out.W.wi.1).1 hj
  have P14 := Lib.hid (P12.out.st T14 (fun hm => J12.out.W.off P12.out (by unfold rwTy; decide) (hmr _ hm)))
  have Q14 := Lib.hid (Q.out.st T14 (fun hm => J12.out.W.off Q.out (by unfold rwTy; decide) (hmr _ hm)))
  have Oq14 := Lib.hid (Oq.out.still T14 (fun j hj => hrow.out j (hmr j hj)))
  have J14 := Lib.hid (J12.out.stW Ww T14)
  clear J12 P12 Q Oq Ww T14 hmr hrow O12
  simp only [rtpC] at Or ⊢
  have BA : BW w14 (w14.alloc (.cells #[.bool dq.marker, .int .u8 (dq.typ : Nat), .int .u16 (dq.seq : Nat), .int .u32 (dq.stamp : Nat), .int .u32 (dq.source : Nat), .slice so5 dq.others.length co5, .bool dq.ext, .int .u16 (dq.profile : Nat), .slice se5 dq.extra.length ce5, .slice sp5 dq.payload.length cp5, .int .u8 (dq.pad : Nat)] 37)) := (BW.refl _).alloc
  have R5 := Lib.hid (HpB.new w14 (.cells #[.bool dq.marker, .int .u8 (dq.typ : Nat), .int .u16 (dq.seq : Nat), .int .u32 (dq.stamp : Nat), .int .u32 (dq.source : Nat), .slice so5 dq.others.length co5, .bool dq.ext, .int .u16 (dq.profile : Nat), .slice se5 dq.extra.length ce5, .slice sp5 dq.payload.length cp5, .int .u8 (dq.pad : Nat)] 37))
  replace J14 := Lib.hid (J14.out.then BA)
  replace P14 := Lib.hid (P14.out.bw BA)
  replace Q14 := Lib.hid (Q14.out.bw BA)
  replace Oq14 := Lib.hid (Oq14.out.bw BA)
  replace Or := Lib.hid (Or.bw BA)
  replace BA := Lib.hid BA
  go_upto_region 22 with (fail)
  generalize (w14.alloc _) = w15 at *
  generalize w14.heap.size = gr at *
  clear BA
  obtain ⟨sN2, cN2, hvN2, hnN2, hmN2⟩ := J14.out.W.nm.len
  have l51 : ∀ y : LaterS [] w15, y.now.cell? ⟨gw, 51, none⟩ = some (.int .i64 (u2 : Nat)) := fun y => (J14.out.W.bw y.bw).usd
  have l52 : ∀ y : LaterS [] w15, y.now.cell? ⟨gw, 52, none⟩ = some (.slice sN2 M2.length cN2) := fun y => by rw [← hvN2]; exact (J14.out.W.bw y.bw).nam
  have l4 : ∀ y : LaterS [] w15, y.now.cell? ⟨gp, 4, none⟩ = some (.int .u32 (so : Nat)) := fun y => (hp_cell (P14.out.bw y.bw) 4).trans rfl
  have hM2 : M2.length ≤ 1000 := by have := hR.out; have := hq.out; omega
  have hu2 : u2 ≤ 1000000 := by have := hR.out; have := hq.out; omega
  have hso : so < 4294967296 := hsb.out
  replace hvN2 := Lib.hid hvN2
  replace hnN2 := Lib.hid hnN2
  replace hmN2 := Lib.hid hmN2
  replace hM2 := Lib.hid hM2
  replace hu2 := Lib.hid hu2
  replace hso := Lib.hid hso
  as_aux_lemma =>
  refine wp_region_gg [] [] [] (by kernel_rfl) ?_
  refine hoist [] [] (a1 := ?_) 0 rfl (by kernel_rfl) (.inl ⟨rfl, rfl⟩) rfl rfl rfl (fun x K hK => ?_) ?_
  rotate_left
  ·go_big_quiet_op
   exact hK
  refine hoist [] [] (a1 := ?_) 1 rfl (by kernel_rfl) (.inl ⟨rfl, rfl⟩) rfl rfl rfl (fun x K hK => ?_) ?_
  rotate_left
  ·go_big_quiet_op
   exact hK
  refine hoist [] [] (a1 := ?_) 2 rfl (by kernel_rfl) (.inl ⟨rfl, rfl⟩) rfl rfl rfl (fun x K hK => ?_) ?_
  rotate_left
  ·go_big_quiet_op
   exact hK
  refine hoist [] [] (a1 := ?_) 3 rfl (by kernel_rfl) (.inl ⟨rfl, rfl⟩) rfl rfl rfl (fun x K hK => ?_) ?_
  rotate_left
  ·go_big_quiet_op
   exact hK
  refine hoist [] [] (a1 := ?_) 4 rfl (by kernel_rfl) (.inl ⟨rfl, rfl⟩) rfl rfl rfl (fun x K hK => ?_) ?_
  rotate_left
  ·go_big_quiet_op
   exact hK
  refine hoist [] [] (a1 := ?_) 5 rfl (by kernel_rfl) (.inl ⟨rfl, rfl⟩) rfl rfl rfl (fun x K hK => ?_) ?_
  rotate_left
  ·go_big_quiet_op
   exact hK
  refine hoist [] [] (a1 := ?_) 6 rfl (by kernel_rfl) (.inl ⟨rfl, rfl⟩) rfl rfl rfl (fun x K hK => ?_) ?_
  rotate_left
  ·go_big_quiet_op
   exact hK
  refine hoist [] [] (a1 := ?_) 7 rfl (by kernel_rfl) (.inl ⟨rfl, rfl⟩) rfl rfl rfl (fun x K hK => ?_) ?_
  rotate_left
  ·go_big_quiet_op
   exact hK
  refine hoist [] [] (a1 := ?_) 8 rfl (by kernel_rfl) (.inl ⟨rfl, rfl⟩) rfl rfl rfl (fun x K hK => ?_) ?_
  rotate_left
  ·go_big_quiet_op
   exact hK
  refine hoist [] [] (a1 := ?_) 9 rfl (by kernel_rfl) (.inl ⟨rfl, rfl⟩) rfl rfl rfl (fun x K hK => ?_) ?_
  rotate_left
  ·refine qlR rfl (by rfl) rfl (fun w' hw => by subst hw; exact Q14.out.bw x.bw) (by simp only [Act.put, List.setIfInBounds_toArray, List.set_cons_succ, List.set_cons_zero]; rfl) ?_
   exact hK
  refine hoist [] [] (a1 := ?_) 10 rfl (by kernel_rfl) (.inl ⟨rfl, rfl⟩) rfl rfl rfl (fun x K hK => ?_) ?_
  rotate_left
  ·refine qlR rfl (by rfl) rfl (fun w' hw => by subst hw; exact R5.out.bw x.bw) (by simp only [Act.put, List.setIfInBounds_toArray, List.set_cons_succ, List.set_cons_zero]; rfl) ?_
   exact hK
  refine hoist_call [] [] (a1 := ?_) 11 rfl (by kernel_rfl) (.inl ⟨rfl, rfl⟩) rfl rfl rfl (fun x K hK => ?_) ?_
  rotate_left
  ·go_big_quiet_op
   apply Exists.intro
   refine ⟨fun y => ?_, ?_⟩
   ·exact ((same_true _ _ dq y.now (Oq14.out.bw (x.bw.trans y.bw)).v (Or.out.bw (x.bw.trans y.bw)).v).mono fun _ w' h => ⟨h.1, ⟨w', y.ok.trans (h.2.still [])⟩, rfl⟩)
   ·exact hK
  refine hoist [] [] (a1 := ?_) 12 rfl (by kernel_rfl) (.inl ⟨rfl, rfl⟩) rfl rfl rfl (fun x K hK => ?_) ?_
  rotate_left
  ·go_big_quiet_op
   exact hK
  refine hoist [] [] (a1 := ?_) 13 rfl (by kernel_rfl) (.inl ⟨rfl, rfl⟩) rfl rfl rfl (fun x K hK => ?_) ?_
  rotate_left
  ·go_big_quiet_op
   exact hK
  refine hoist [] [] (a1 := ?_) 14 rfl (by kernel_rfl) (.inl ⟨rfl, rfl⟩) rfl rfl rfl (fun x K hK => ?_) ?_
  rotate_left
  ·go_big_quiet_op
   exact hK
  refine hoist [] [] (a1 := ?_) 15 rfl (by kernel_rfl) (.inl ⟨rfl, rfl⟩) rfl rfl rfl (fun x K hK => ?_) ?_
  rotate_left
  ·go_big_quiet_op
   exact hK
  refine hoist_call [] [] (a1 := ?_) 16 rfl (by kernel_rfl) (.inl ⟨rfl, rfl⟩) rfl rfl rfl (fun x K hK => ?_) ?_
  rotate_left
  ·go_big_quiet_op
   apply Exists.intro
   refine ⟨fun y => ?_, ?_⟩
   ·exact ((way_used gb KB lim u2 mb M2 y.now (J14.out.B.bw (x.bw.trans y.bw))).mono fun _ _ h => ⟨h.1, y, h.2.symm⟩)
   ·exact hK
  refine hoist [] [] (a1 := ?_) 17 rfl (by kernel_rfl) (.inl ⟨rfl, rfl⟩) rfl rfl rfl (fun x K hK => ?_) ?_
  rotate_left
  ·go_big_quiet_op
   exact hK
  refine hoist [] [] (a1 := ?_) 18 rfl (by kernel_rfl) (.inl ⟨rfl, rfl⟩) rfl rfl rfl (fun x K hK => ?_) ?_
  rotate_left
  ·go_big_quiet_op
   exact hK
  refine hoist [] [] (a1 := ?_) 19 rfl (by kernel_rfl) (.inl ⟨rfl, rfl⟩) rfl rfl rfl (fun x K hK => ?_) ?_
  rotate_left
  ·go_big_quiet_op
   exact hK
  refine hoist [] [] (a1 := ?_) 20 rfl (by kernel_rfl) (.inl ⟨rfl, rfl⟩) rfl rfl rfl (fun x K hK => ?_) ?_
  rotate_left
  ·go_big_quiet_op
   exact hK
  refine hoist [] [] (a1 := ?_) 21 rfl (by kernel_rfl) (.inl ⟨rfl, rfl⟩) rfl rfl rfl (fun x K hK => ?_) ?_
  rotate_left
  ·go_big_quiet_op
   exact hK
  refine hoist [] [] (a1 := ?_) 22 rfl (by kernel_rfl) (.inl ⟨rfl, rfl⟩) rfl rfl rfl (fun x K hK => ?_) ?_
  rotate_left
  ·go_big_quiet_op
   exact hK
  refine hoist [] [] (a1 := ?_) 23 rfl (by kernel_rfl) (.inl ⟨rfl, rfl⟩) rfl rfl rfl (fun x K hK => ?_) ?_
  rotate_left
  ·go_big_quiet_op
   exact hK
  refine hoist [] [] (a1 := ?_) 24 rfl (by kernel_rfl) (.inl ⟨rfl, rfl⟩) rfl rfl rfl (fun x K hK => ?_) ?_
  rotate_left
  ·go_big_quiet_op
   exact hK
  refine hoist_call [] [] (a1 := ?_) 25 rfl (by kernel_rfl) (.inl ⟨rfl, rfl⟩) rfl rfl rfl (fun x K hK => ?_) ?_
  rotate_left
  ·go_big_quiet_op
   apply Exists.intro
   refine ⟨fun y => ?_, ?_⟩
   ·exact ((way_sources gb KB lim u2 mb M2 y.now (J14.out.B.bw (x.bw.trans y.bw))).mono fun _ _ h => ⟨h.1, y, h.2.symm⟩)
   ·exact hK
  refine hoist [] [] (a1 := ?_) 26 rfl (by kernel_rfl) (.inl ⟨rfl, rfl⟩) rfl rfl rfl (fun x K hK => ?_) ?_
  rotate_left
  ·go_big_quiet_op
   exact hK
  refine hoist [] [] (a1 := ?_) 27 rfl (by kernel_rfl) (.inl ⟨rfl, rfl⟩) rfl rfl rfl (fun x K hK => ?_) ?_
  rotate_left
  ·go_big_quiet_op
   exact hK
  refine hoist [] [] (a1 := ?_) 28 rfl (by kernel_rfl) (.inl ⟨rfl, rfl⟩) rfl rfl rfl (fun x K hK => ?_) ?_
  rotate_left
  ·go_big_quiet_op
   exact hK
  refine hoist [] [] (a1 := ?_) 29 rfl (by kernel_rfl) (.inl ⟨rfl, rfl⟩) rfl rfl rfl (fun x K hK => ?_) ?_
  rotate_left
  ·go_big_quiet_op
   exact hK
  refine hoist [] [] (a1 := ?_) 30 rfl (by kernel_rfl) (.inl ⟨rfl, rfl⟩) rfl rfl rfl (fun x K hK => ?_) ?_
  rotate_left
  ·go_big_quiet_op
   exact hK
  refine hoist [] [] (a1 := ?_) 31 rfl (by kernel_rfl) (.inl ⟨rfl, rfl⟩) rfl rfl rfl (fun x K hK => ?_) ?_
  rotate_left
  ·go_big_quiet_op
   exact hK
  refine hoist [] [] (a1 := ?_) 32 rfl (by kernel_rfl) (.inl ⟨rfl, rfl⟩) rfl rfl rfl (fun x K hK => ?_) ?_
  rotate_left
  ·go_big_quiet_op
   exact hK
  refine hoist [] [] (a1 := ?_) 33 rfl (by kernel_rfl) (.inl ⟨rfl, rfl⟩) rfl rfl rfl (fun x K hK => ?_) ?_
  rotate_left
  ·go_big_quiet_op
   exact hK
  refine hoist [] [] (a1 := ?_) 34 rfl (by kernel_rfl) (.inl ⟨rfl, rfl⟩) rfl rfl rfl (fun x K hK => ?_) ?_
  rotate_left
  ·go_big_quiet_op
   exact hK
  refine hoist [] [] (a1 := ?_) 35 rfl (by kernel_rfl) (.inl ⟨rfl, rfl⟩) rfl rfl rfl (fun x K hK => ?_) ?_
  rotate_left
  ·go_big_quiet_op
   exact hK
  refine hoist [] [] (a1 := ?_) 36 rfl (by kernel_rfl) (.inl ⟨rfl, rfl⟩) rfl rfl rfl (fun x K hK => ?_) ?_
  rotate_left
  ·go_big_quiet_op
   exact hK
  refine hoist [] [] (a1 := ?_) 37 rfl (by kernel_rfl) (.inl ⟨rfl, rfl⟩) rfl rfl rfl (fun x K hK => ?_) ?_
  rotate_left
  ·go_big_quiet_op
   exact hK
  refine hoist_call [] [] (a1 := ?_) 38 rfl (by kernel_rfl) (.inl ⟨rfl, rfl⟩) rfl rfl rfl (fun x K hK => ?_) ?_
  rotate_left
  ·go_big_quiet_op
   apply Exists.intro
   refine ⟨fun y => ?_, ?_⟩
   ·exact ((way_high gb KB lim u2 mb M2 so hR.out.1 hso.out y.now (J14.out.B.bw (x.bw.trans y.bw))).mono fun _ w' h => ⟨h.1, ⟨w', y.ok.trans (h.2.still [])⟩, rfl⟩)
   ·exact hK
  refine hoist [] [] (a1 := ?_) 39 rfl (by kernel_rfl) (.inl ⟨rfl, rfl⟩) rfl rfl rfl (fun x K hK => ?_) ?_
  rotate_left
  ·go_big_quiet_op
   exact hK
  refine hoist [] [] (a1 := ?_) 40 rfl (by kernel_rfl) (.inl ⟨rfl, rfl⟩) rfl rfl rfl (fun x K hK => ?_) ?_
  rotate_left
  ·go_big_quiet_op
   exact hK
  refine hoist [] [] (a1 := ?_) 41 rfl (by kernel_rfl) (.inl ⟨rfl, rfl⟩) rfl rfl rfl (fun x K hK => ?_) ?_
  rotate_left
  ·go_big_quiet_op
   exact hK
  refine hoist [] [] (a1 := ?_) 42 rfl (by kernel_rfl) (.inl ⟨rfl, rfl⟩) rfl rfl rfl (fun x K hK => ?_) ?_
  rotate_left
  ·go_big_quiet_op
   exact hK
  refine hoist_call [] [] (a1 := ?_) 43 rfl (by kernel_rfl) (.inl ⟨rfl, rfl⟩) rfl rfl rfl (fun x K hK => ?_) ?_
  rotate_left
  ·go_big_quiet_op
   apply Exists.intro
   refine ⟨fun y => ?_, ?_⟩
   ·exact ((rwayhigh_ok w.heap.size gw KB lim u2 M2 _ _ _ _ _ so hso.out hR.out.1 hM2.out hu2.out y.now (J14.out.W.bw (x.bw.trans y.bw))).mono fun _ _ h => ⟨h.1, y, h.2.symm⟩)
   ·exact hK
  refine hoist [] [] (a1 := ?_) 44 rfl (by kernel_rfl) (.inl ⟨rfl, rfl⟩) rfl rfl rfl (fun x K hK => ?_) ?_
  rotate_left
  ·go_big_quiet_op
   exact hK
  refine hoist [] [] (a1 := ?_) 45 rfl (by kernel_rfl) (.inl ⟨rfl, rfl⟩) rfl rfl rfl (fun x K hK => ?_) ?_
  rotate_left
  ·go_big_quiet_op
   exact hK
  refine done (by kernel_rfl) (fun xr => ?_)
  have J16 := Lib.hid (J14.out.then xr.bw)
  clear l51 l52 l4 J14 P14 Q14 R5 Oq14 Or
  generalize xr.now = w16 at *
  go_wp2_with fail
  go_roundg (30 - (k + 1))
  case measure => omega
  case rel => exact ⟨k + 1, u, u2, M2, vN2, vW2, ps2, v2, L2, rfl, by omega, by push_cast; rfl, J16.out, by have := hq.out; have := hu1.out; omega, by have := hq.out; have := hR.out; omega, hR.out.1, hR.out.2.1⟩
end Go.Proofs.YtikmhlbpefednaaGreat

namespace Go.Proofs.YtikmhlbpefednaaGreat
open Go.RowKit
theorem mast_of_Rd {w : World} {cs : Array Value} (h : Rd w (.scope (.seq (.block 16 (.label 4)) (.seq (.block 14 (.label 4)) .skip))) cs.toList) : ∃ key salt : List Nat, cs = ivA .u8 (key ++ salt) ∧ key.length = 16 ∧ ByL key ∧ salt.length = 14 ∧ ByL salt := by
 obtain ⟨c1, c2, e, h1, c3, c4, e2, h3, h4⟩ := h
 have h4 : c4 = [] := h4
 subst h4 e2
 obtain ⟨k1, e1, l1, b1⟩ := bytes_of_cells w 16 c1 h1.1 h1.2
 obtain ⟨k2, e2, l2, b2⟩ := bytes_of_cells w 14 c3 h3.1 h3.2
 refine ⟨k1, k2, ?_, l1, byl_of b1, l2, byl_of b2⟩
 apply Array.ext'
 rw [e, e1, e2]
 simp [ivA]
theorem law_srplays (cs0 cs1 : Array Value) (a2 : Int) (a3 : Option Addr) (len3 cap3 : Nat) (w : World) (w0 : Rd w (.scope (.seq (.block 16 (.label 4)) (.seq (.block 14 (.label 4)) .skip))) cs0.toList) (w1 : Rd w (.scope (.seq (.block 16 (.label 4)) (.seq (.block 14 (.label 4)) .skip))) cs1.toList) (_w2 : (Lit.int .i64 a2).wf = true) (w3 : Rd w (.loop srOpTy) [.slice a3 len3 cap3]) :
  Calls Tryz.prog 3 #[.agg cs0, .agg cs1, .int .i64 a2, .slice a3 len3 cap3] w fun e w' => e = .returned (.bool true) ∧ Below w.heap.size w w' := by
 obtain ⟨k, s, rfl, h1, h2, h3, h4⟩ := mast_of_Rd w0
 obtain ⟨k2, s2, rfl, g1, g2, g3, g4⟩ := mast_of_Rd w1
 exact plays_walk k s k2 s2 h1 h2 h3 h4 g1 g2 g3 g4 a2 a3 len3 cap3 w w3
end Go.Proofs.YtikmhlbpefednaaGreat
