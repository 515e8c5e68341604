/- H.264 by the document: Units, Key. No condition but the size. -/
import Derived.Test.YtojedpahaifjgaaGEk
namespace Go.Proofs.Ytojedpahaifjgaa
open Go.RowKit
set_option maxRecDepth 100000 in
set_option maxHeartbeats 8000000 in
theorem rUnits_any (sa : Option Addr) (n cp : Nat) (l : List Nat) (w : World) (h : SB w (.slice sa n cp) n l) (hn : n ≤ 100000) :
  Calls Try.prog 78 #[.slice sa n cp] w (UnPost (unitsN l) w) := by
 have hlen := h.1
 have hby := Lib.hid h.2.1
 obtain ⟨_, _, he, hcp, hcm⟩ := h.len
 cases he
 unfold maxLen at hcm
 have hdr : ∀ k j, (l.drop k).getD j 0 = l.getD (k + j) 0 := fun k j => by simp [List.getD_eq_getElem?_getD, List.getElem?_drop]
 by_cases h2 : n < 1
 ·have hU : unitsN l = none := by unfold unitsN; rw [if_pos (by omega)]
  rw [hU]
  clear h hdr
  replace hU := Lib.hid hU
  replace hlen := Lib.hid hlen
  go_enter Try.func78, Try.ntmps78
  go_wp2_with fail
  go_ret2
  exact UnPost.no rfl (by decide) (BW.refl _)
 have hn0 : 0 < n := by omega
 obtain ⟨g, o, cap, hsl, -, -, -, hcell⟩ := h.form (by omega)
 simp only [Value.slice.injEq] at hsl
 obtain ⟨hsa, -, -⟩ := hsl
 have z0 := hcell 0 (by omega)
 rw [Nat.add_zero] at z0
 have b0 := ByL.get hby.out 0
 have hU : unitsN l = if l.getD 0 0 % 32 = 24 then unitsW (l.drop 1) else if l.getD 0 0 % 32 = 28 then partN (l.drop 1) else if 1 ≤ l.getD 0 0 % 32 ∧ l.getD 0 0 % 32 ≤ 23 then some [((l.getD 0 0 % 32 : Nat) : Int)] else none := by
  unfold unitsN; rw [if_neg (by omega)]
 have hP := show partN (l.drop 1) = _ from rfl
 conv at hP => rhs; unfold partN
 rw [hdr 1 0] at hP
 simp only [Nat.add_zero] at hP
 have ht : l.getD 0 0 % 32 < 32 := Nat.mod_lt _ (by decide)
 have hte : ((l.getD 0 0 : Nat) : Int) % 32 = ((l.getD 0 0 % 32 : Nat) : Int) := by omega
 subst hsa
 generalize l.getD 0 0 % 32 = t at *
 generalize l.getD 0 0 = y at *
 rw [hU]
 by_cases k3 : 1 ≤ t ∧ t ≤ 23
 ·have e3 : decide ((1 : Int) ≤ (t : Int)) = true := by simp; omega
  have e4 : decide ((t : Int) ≤ 23) = true := by simp; omega
  rw [if_neg (by omega), if_neg (by omega), if_pos k3]
  have q1 := Lib.hid (one_new w w.heap.size (Nat.le_refl _) (t : Int))
  clear hdr hcell hP h
  replace hU := Lib.hid hU
  replace hlen := Lib.hid hlen
  replace k3 := Lib.hid k3
  go_enter Try.func78, Try.ntmps78
  go_wp2_with fail
  go_ret2
  exact UnPost.yes rfl (BW.refl _).alloc q1.out (by simp)
 have e34 : decide ((1 : Int) ≤ (t : Int)) = false ∨ (decide ((1 : Int) ≤ (t : Int)) = true ∧ decide ((t : Int) ≤ 23) = false) := by
  by_cases k4 : 1 ≤ t
  ·exact .inr ⟨by simp; omega, by simp; omega⟩
  ·exact .inl (by simp; omega)
 by_cases k2 : t = 28
 ·have e2 : ((t : Int) == 28) = true := by rw [k2]; rfl
  rw [if_neg (by omega), if_pos k2]
  have e3 : decide ((1 : Int) ≤ (t : Int)) = true := by simp; omega
  have e4 : decide ((t : Int) ≤ 23) = false := by simp; omega
  clear e34
  by_cases k5 : n < 3
  ·have hN : partN (l.drop 1) = none := by rw [hP, if_pos (.inl (by rw [List.length_drop]; omega))]
   rw [hN]
   clear hdr hcell hP h
   replace hU := Lib.hid hU
   replace hlen := Lib.hid hlen
   replace k3 := Lib.hid k3
   replace k2 := Lib.hid k2
   replace hN := Lib.hid hN
   go_enter Try.func78, Try.ntmps78
   go_wp2_with fail
   go_ret2
   exact UnPost.no rfl (by decide) (BW.refl _)
  have z1 := hcell 1 (by omega)
  have b1 := ByL.get hby.out 1
  have hue : ((l.getD 1 0 : Nat) : Int) % 32 = ((l.getD 1 0 % 32 : Nat) : Int) := by omega
  have hub : l.getD 1 0 % 32 < 32 := Nat.mod_lt _ (by decide)
  have hd1 : (l.drop 1).length = n - 1 := by rw [List.length_drop, hlen]
  rw [hd1] at hP
  clear hdr hcell h
  by_cases hb : l.getD 1 0 / 32 % 2 = 1 ∨ 192 ≤ l.getD 1 0 ∨ l.getD 1 0 % 32 < 1 ∨ 23 < l.getD 1 0 % 32
  ·rw [if_pos (.inr hb)] at hP
   rw [hP]
   generalize l.getD 1 0 = y1 at *
   have f1 : ((y1 : Int) / 32 % 2 == 1) = decide (y1 / 32 % 2 = 1) := by
    by_cases k : y1 / 32 % 2 = 1
    ·rw [decide_eq_true k]; exact beq_iff_eq.2 (by omega)
    ·rw [decide_eq_false k]; exact beq_eq_false_iff_ne.2 (by omega)
   have f2 : decide ((192 : Int) ≤ (y1 : Int)) = decide (192 ≤ y1) := by
    by_cases k : 192 ≤ y1
    ·rw [decide_eq_true k]; simp; omega
    ·rw [decide_eq_false k]; simp; omega
   by_cases j1 : y1 / 32 % 2 = 1
   ·have d1 := eq_decide f1 j1
    clear f1 f2 hb
    generalize y1 % 32 = u at *
    replace j1 := Lib.hid j1
    replace hU := Lib.hid hU
    replace hlen := Lib.hid hlen
    replace k3 := Lib.hid k3
    replace k2 := Lib.hid k2
    replace hP := Lib.hid hP
    go_enter Try.func78, Try.ntmps78
    go_wp2_with fail
    go_ret2
    exact UnPost.no rfl (by decide) (BW.refl _)
   have d1 := ne_decide f1 j1
   by_cases j2 : 192 ≤ y1
   ·have d2 := eq_decide f2 j2
    clear f1 f2 hb
    generalize y1 % 32 = u at *
    replace j1 := Lib.hid j1
    replace j2 := Lib.hid j2
    replace hU := Lib.hid hU
    replace hlen := Lib.hid hlen
    replace k3 := Lib.hid k3
    replace k2 := Lib.hid k2
    replace hP := Lib.hid hP
    go_enter Try.func78, Try.ntmps78
    go_wp2_with fail
    go_ret2
    exact UnPost.no rfl (by decide) (BW.refl _)
   have d2 := ne_decide f2 j2
   clear f1 f2
   generalize y1 % 32 = u at *
   by_cases j3 : u < 1
   ·have d3 : decide ((u : Int) < 1) = true := by simp; omega
    replace j1 := Lib.hid j1
    replace j2 := Lib.hid j2
    replace j3 := Lib.hid j3
    replace hU := Lib.hid hU
    replace hlen := Lib.hid hlen
    replace k3 := Lib.hid k3
    replace k2 := Lib.hid k2
    replace hP := Lib.hid hP
    replace hb := Lib.hid hb
    go_enter Try.func78, Try.ntmps78
    go_wp2_with fail
    go_ret2
    exact UnPost.no rfl (by decide) (BW.refl _)
   ·have d3 : decide ((u : Int) < 1) = false := by simp; omega
    have d4 : decide ((23 : Int) < (u : Int)) = true := by simp; omega
    replace j1 := Lib.hid j1
    replace j2 := Lib.hid j2
    replace j3 := Lib.hid j3
    replace hU := Lib.hid hU
    replace hlen := Lib.hid hlen
    replace k3 := Lib.hid k3
    replace k2 := Lib.hid k2
    replace hP := Lib.hid hP
    replace hb := Lib.hid hb
    go_enter Try.func78, Try.ntmps78
    go_wp2_with fail
    go_ret2
    exact UnPost.no rfl (by decide) (BW.refl _)
  ·rw [if_neg (by omega)] at hP
   rw [hP]
   generalize l.getD 1 0 = y1 at *
   have d1 : ((y1 : Int) / 32 % 2 == 1) = false := beq_eq_false_iff_ne.2 (by omega)
   have d2 : decide ((192 : Int) ≤ (y1 : Int)) = false := by simp; omega
   have d3 : decide (((y1 % 32 : Nat) : Int) < 1) = false := by simp; omega
   have d4 : decide ((23 : Int) < ((y1 % 32 : Nat) : Int)) = false := by simp; omega
   generalize y1 % 32 = u at *
   have q1 := Lib.hid (one_new w w.heap.size (Nat.le_refl _) (u : Int))
   replace hU := Lib.hid hU
   replace hlen := Lib.hid hlen
   replace k3 := Lib.hid k3
   replace k2 := Lib.hid k2
   replace hP := Lib.hid hP
   replace hb := Lib.hid hb
   go_enter Try.func78, Try.ntmps78
   go_wp2_with fail
   go_ret2
   exact UnPost.yes rfl (BW.refl _).alloc q1.out (by simp)
 have e2 : ((t : Int) == 28) = false := beq_eq_false_iff_ne.2 (by omega)
 by_cases k1 : t ≠ 24
 ·have e1 : ((t : Int) != 24) = true := by simp; omega
  rw [if_neg k1, if_neg k2, if_neg k3]
  clear hdr hcell hP h
  replace hU := Lib.hid hU
  replace hlen := Lib.hid hlen
  replace k3 := Lib.hid k3
  replace k2 := Lib.hid k2
  replace k1 := Lib.hid k1
  rcases e34 with e3 | ⟨e3, e4⟩
  all_goals
   go_enter Try.func78, Try.ntmps78
   go_wp2_with fail
   go_ret2
   exact UnPost.no rfl (by decide) (BW.refl _)
 replace k1 : t = 24 := by omega
 rw [if_pos k1]
 have e1 : ((t : Int) != 24) = false := by rw [k1]; rfl
 have e3 : decide ((1 : Int) ≤ (t : Int)) = true := by simp; omega
 have e4 : decide ((t : Int) ≤ 23) = false := by simp; omega
 clear e34 hP
 obtain ⟨R, hR⟩ : ∃ R, unitsW (l.drop 1) = R := ⟨_, rfl⟩
 have hR0 : Hid ((unitsW (l.drop 1)).map (([] : List Int) ++ ·) = R) := by rw [Hid, hR]; cases R <;> simp
 rw [hR]
 have hC := Lib.hid hcell
 have hD := Lib.hid hdr
 clear hcell hdr h
 replace hU := Lib.hid hU
 replace hlen := Lib.hid hlen
 replace k3 := Lib.hid k3
 replace k2 := Lib.hid k2
 replace k1 := Lib.hid k1
 replace hR := Lib.hid hR
 go_enter Try.func78, Try.ntmps78
 go_upto_region 17 with (fail)
 replace hte := Lib.hid hte
 go_loopg [6, 7] (n - 1) (fun m' o at_ wx => ∃ (k : Nat) (so : Option Addr) (co m : Nat) (ts : List Int), m' = n - k ∧ k ≤ n ∧ at_ = .int .i64 (k : Nat) ∧ o = .slice so m co ∧ co ≤ 9223372036854775807 ∧ m ≤ k ∧ Hid (EQ I1 3 wx w.heap.size (.slice so m co) m ts) ∧ Hid ((unitsW (l.drop k)).map (ts ++ ·) = R) ∧ Hid (BW w wx))
 case atStart => exact ⟨1, none, 0, 0, [], by omega, by omega, rfl, rfl, by omega, by omega, EQ.nil _ _ _ _, hR0, BW.refl _⟩
 case round =>
  clear hR0 z0
  obtain ⟨k, so, co, m, ts, rfl, hk, rfl, rfl, hco, hm, Q, hR, B⟩ := hrel
  have hl := hlen.out
  have hLl : (l.drop k).length = n - k := by rw [List.length_drop, hl]
  have g0 := hD.out k 0
  have g1 := hD.out k 1
  have g2 := hD.out k 2
  rw [Nat.add_zero] at g0
  by_cases h2 : n < k + 2
  ·have hV := unitsW_none (l := l.drop k) (.inl (by omega))
   rw [hV] at hR
   have d1 : decide ((n : Int) < (k : Int) + 2) = true := by simp; omega
   clear g0 g1 g2
   replace hV := Lib.hid hV
   replace hl := Lib.hid hl
   replace hLl := Lib.hid hLl
   go_wp2_with fail
   go_ret2
   exact UnPost.no (by rw [← hR.out]; rfl) (by decide) B.out
  have d1 : decide ((n : Int) < (k : Int) + 2) = false := by simp; omega
  have z0 := B.out.cell (hC.out k (by omega))
  have z1 := B.out.cell (hC.out (k + 1) (by omega))
  have b0 := ByL.get hby.out k
  have b1 := ByL.get hby.out (k + 1)
  have b2 := ByL.get hby.out (k + 2)
  have hne := fun (h : ¬ ((l.drop k).length < 2 ∨ 256 * (l.drop k).getD 0 0 + (l.drop k).getD 1 0 = 0 ∨ (l.drop k).length < 2 + (256 * (l.drop k).getD 0 0 + (l.drop k).getD 1 0) ∨ (l.drop k).getD 2 0 % 32 = 0)) => h
  have v2 := fun h => unitsW_none (l := l.drop k) (.inr (.inl h))
  have v3 := fun h => unitsW_none (l := l.drop k) (.inr (.inr (.inl h)))
  have v4 := fun h => unitsW_none (l := l.drop k) (.inr (.inr (.inr h)))
  have v5 := fun h => unitsW_last (l := l.drop k) h
  have v6 := fun h => unitsW_more (l := l.drop k) h
  rw [hLl] at v3 v5 v6
  rw [List.drop_drop] at v6
  rw [g0, g1] at v2 v3 v5 v6
  rw [g2] at v4 v5 v6
  have s1 : ((k : Int) + 1).toNat = k + 1 := by omega
  have s2 : IntKind.i64.wrap ((k : Int) + 1) = (k : Int) + 1 := IntWalk.i64_in _ (by omega)
  have s3 : IntKind.i64.wrap (256 * ((l.getD k 0 : Nat) : Int)) = 256 * ((l.getD k 0 : Nat) : Int) := IntWalk.i64_in _ (by omega)
  have s4 : IntKind.i64.wrap (256 * ((l.getD k 0 : Nat) : Int) + ((l.getD (k + 1) 0 : Nat) : Int)) = 256 * ((l.getD k 0 : Nat) : Int) + ((l.getD (k + 1) 0 : Nat) : Int) := IntWalk.i64_in _ (by omega)
  obtain ⟨N, hN⟩ : ∃ N, 256 * l.getD k 0 + l.getD (k + 1) 0 = N := ⟨_, rfl⟩
  have hNi : 256 * ((l.getD k 0 : Nat) : Int) + ((l.getD (k + 1) 0 : Nat) : Int) = (N : Int) := by omega
  rw [hN] at v2 v3 v5 v6
  have hNb : N < 65536 := by omega
  generalize l.getD k 0 = y0 at *
  generalize l.getD (k + 1) 0 = y1 at *
  clear g0 g1 g2 hne
  replace v2 := Lib.hid v2
  replace v3 := Lib.hid v3
  replace v4 := Lib.hid v4
  replace v5 := Lib.hid v5
  replace v6 := Lib.hid v6
  replace hl := Lib.hid hl
  replace hLl := Lib.hid hLl
  replace hN := Lib.hid hN
  have hNi' := Lib.hid hNi
  clear hNi
  have hk1 : (k : Int) + 1 < n := by omega
  have hk1' : 0 ≤ (k : Int) + 1 := by omega
  go_upto_region 19 with (fail)
  have m0 : ∀ y : LaterS [] wr, _ := fun y => y.bw.cell z0
  have m1 : ∀ y : LaterS [] wr, _ := fun y => y.bw.cell z1
  refine wp_region_gg [] [] [] (by kernel_rfl) ?_
  refine hoist [] [] (a1 := ?_) 0 rfl (by kernel_rfl) (.inl ⟨rfl, rfl⟩) rfl rfl rfl (fun x K hK => ?_) ?_
  rotate_left
  ·go_big_quiet_op
   exact hK
  refine hoist [] [] (a1 := ?_) 1 rfl (by kernel_rfl) (.inl ⟨rfl, rfl⟩) rfl rfl rfl (fun x K hK => ?_) ?_
  rotate_left
  ·go_big_quiet_op
   exact hK
  refine hoist [] [] (a1 := ?_) 2 rfl (by kernel_rfl) (.inl ⟨rfl, rfl⟩) rfl rfl rfl (fun x K hK => ?_) ?_
  rotate_left
  ·go_big_quiet_op
   exact hK
  refine hoist [] [] (a1 := ?_) 3 rfl (by kernel_rfl) (.inl ⟨rfl, rfl⟩) rfl rfl rfl (fun x K hK => ?_) ?_
  rotate_left
  ·go_big_quiet_op
   exact hK
  refine hoist [] [] (a1 := ?_) 4 rfl (by kernel_rfl) (.inl ⟨rfl, rfl⟩) rfl rfl rfl (fun x K hK => ?_) ?_
  rotate_left
  ·go_big_quiet_op
   exact hK
  refine hoist [] [] (a1 := ?_) 5 rfl (by kernel_rfl) (.inl ⟨rfl, rfl⟩) rfl rfl rfl (fun x K hK => ?_) ?_
  rotate_left
  ·go_big_quiet_op
   exact hK
  refine hoist [] [] (a1 := ?_) 6 rfl (by kernel_rfl) (.inl ⟨rfl, rfl⟩) rfl rfl rfl (fun x K hK => ?_) ?_
  rotate_left
  ·go_big_quiet_op
   exact hK
  refine hoist [] [] (a1 := ?_) 7 rfl (by kernel_rfl) (.inl ⟨rfl, rfl⟩) rfl rfl rfl (fun x K hK => ?_) ?_
  rotate_left
  ·go_big_quiet_op
   exact hK
  refine hoist [] [] (a1 := ?_) 8 rfl (by kernel_rfl) (.inl ⟨rfl, rfl⟩) rfl rfl rfl (fun x K hK => ?_) ?_
  rotate_left
  ·go_big_quiet_op
   exact hK
  refine hoist [] [] (a1 := ?_) 9 rfl (by kernel_rfl) (.inl ⟨rfl, rfl⟩) rfl rfl rfl (fun x K hK => ?_) ?_
  rotate_left
  ·go_big_quiet_op
   exact hK
  refine hoist [] [] (a1 := ?_) 10 rfl (by kernel_rfl) (.inl ⟨rfl, rfl⟩) rfl rfl rfl (fun x K hK => ?_) ?_
  rotate_left
  ·go_big_quiet_op
   exact hK
  refine hoist [] [] (a1 := ?_) 11 rfl (by kernel_rfl) (.inl ⟨rfl, rfl⟩) rfl rfl rfl (fun x K hK => ?_) ?_
  rotate_left
  ·go_big_quiet_op
   exact hK
  refine hoist [] [] (a1 := ?_) 12 rfl (by kernel_rfl) (.inl ⟨rfl, rfl⟩) rfl rfl rfl (fun x K hK => ?_) ?_
  rotate_left
  ·go_big_quiet_op
   exact hK
  refine hoist [] [] (a1 := ?_) 13 rfl (by kernel_rfl) (.inl ⟨rfl, rfl⟩) rfl rfl rfl (fun x K hK => ?_) ?_
  rotate_left
  ·go_big_quiet_op
   exact hK
  refine done (by kernel_rfl) (fun xr => ?_)
  have B1 := Lib.hid (B.out.trans xr.bw)
  have Q1 := Lib.hid (Q.out.bw xr.bw)
  clear m0 m1 z0 z1 B Q s1 s2 s3 s4 hk1 hk1'
  rw [hNi'.out]
  generalize xr.now = w1 at *
  by_cases h0 : N = 0
  ·have hV := v2.out h0
   rw [hV] at hR
   subst h0
   replace hV := Lib.hid hV
   go_wp2_with fail
   go_ret2
   exact UnPost.no (by rw [← hR.out]; rfl) (by decide) B1.out
  have d0 : ((N : Int) == 0) = false := by simp; omega
  by_cases h3 : n < k + 2 + N
  ·have hV := v3.out (by omega)
   rw [hV] at hR
   have d2 : decide ((n : Int) < (k : Int) + 2 + (N : Int)) = true := by simp; omega
   replace hV := Lib.hid hV
   go_wp2_with fail
   go_ret2
   exact UnPost.no (by rw [← hR.out]; rfl) (by decide) B1.out
  have d2 : decide ((n : Int) < (k : Int) + 2 + (N : Int)) = false := by simp; omega
  have z2 := B1.out.cell (hC.out (k + 2) (by omega))
  have hte : ((l.getD (k + 2) 0 : Nat) : Int) % 32 = ((l.getD (k + 2) 0 % 32 : Nat) : Int) := by omega
  have hv4 := v4.out
  have hv5 := v5.out
  have hv6 := v6.out
  clear v4 v5 v6
  have htb : l.getD (k + 2) 0 % 32 < 32 := Nat.mod_lt _ (by decide)
  generalize l.getD (k + 2) 0 % 32 = t2 at *
  generalize l.getD (k + 2) 0 = y2 at *
  by_cases ht0 : t2 = 0
  ·have hV := hv4 ht0
   rw [hV] at hR
   subst ht0
   clear hv4 hv5 hv6
   replace hV := Lib.hid hV
   go_wp2_with fail
   go_ret2
   exact UnPost.no (by rw [← hR.out]; rfl) (by decide) B1.out
  have d3 : ((t2 : Int) == 0) = false := by simp; omega
  have hne : ¬ (n - k < 2 ∨ N = 0 ∨ n - k < 2 + N ∨ t2 = 0) := by omega
  have hu5 := hv5 hne
  have hu6 := hv6 hne
  clear hv4 hv5 hv6 hne
  replace hu5 := Lib.hid hu5
  replace hu6 := Lib.hid hu6
  have BCq : BW w1 (w1.alloc (.cells #[.int .i64 (t2 : Int)] 3)) := (BW.refl _).alloc
  have Lq := Lib.hid (Sls.new1 (E := I1) w1 3 [.int .i64 (t2 : Int)] rfl)
  replace Q1 := Lib.hid (Q1.out.bw BCq)
  replace B1 := Lib.hid (B1.out.trans BCq)
  have hzq := Lib.hid (B1.out.size)
  replace BCq := Lib.hid BCq
  go_upto_region 28 with (at_builtin; go_must (refine wpList_apEQ slIn rfl _ _ rfl w.heap.size (.slice so m co) m ts rfl Q1.out _ rfl 1 [(t2 : Int)] [.int .i64 (t2 : Int)] Lq.out (EL.single rfl) rfl (by omega) hzq.out (fun _ _ => trivial) ?_; intro s3 c3 w3 hcq hmq Qn Tn hbn Gn; unfold maxLen at hmq; replace Qn := Lib.hid Qn; replace Tn := Lib.hid Tn; replace Gn := Lib.hid Gn; clear hbn))
  replace B1 := Lib.hid (BW.stP B1.out Tn.out (fun j hj => Q1.out.ge' j (by simpa using hj)))
  clear Q1 Tn Gn Lq hzq BCq
  have Q1 := Qn
  clear Qn
  clear z2 hte
  by_cases hlast : n = k + 2 + N
  ·have hV := hu5.out (by omega)
   have d5 : ((k : Int) + 2 + (N : Int) == (n : Int)) = true := by simp; omega
   replace hV := Lib.hid hV
   replace hlast := Lib.hid hlast
   go_wp2_with fail
   go_ret2
   exact UnPost.yes (ts := ts ++ [(t2 : Int)]) (by rw [← hR.out, hV.out]; rfl) B1.out (by have := Q1.out.full; exact this) (by have := Q1.out.1; omega)
  ·have hV := hu6.out (by omega)
   have d5 : ((k : Int) + 2 + (N : Int) == (n : Int)) = false := by simp; omega
   replace hV := Lib.hid hV
   go_wp2_with fail
   go_roundg (n - (k + (2 + N)))
   case measure => omega
   case rel => exact ⟨k + (2 + N), s3, c3, m + 1, ts ++ [(t2 : Int)], rfl, by omega, by congr 1; omega, rfl, by omega, by omega, Q1, Lib.hid (by rw [← hR.out, hV.out, map_app]), B1⟩
set_option maxRecDepth 100000 in
set_option maxHeartbeats 8000000 in
theorem rkeyA_any (sa : Option Addr) (n cp : Nat) (l : List Nat) (w : World) (h : SB w (.slice sa n cp) n l) (hn : n ≤ 100000) :
  Calls Try.prog 43 #[.slice sa n cp] w fun e w' => e = .returned (.bool (keyA l)) ∧ BW w w' := by
 have cU := Lib.hid (rUnits_any sa n cp l w h hn)
 have hH := Lib.hid h
 have hlen := Lib.hid h.1
 have hby := Lib.hid h.2.1
 clear h
 obtain ⟨K, hK⟩ : ∃ K, keyA l = K := ⟨_, rfl⟩
 rw [hK]
 replace hK := Lib.hid hK
 go_enter Try.func43, Try.ntmps43
 go_wp2_with fail
 refine Calls.mono cU.out ?_
 rintro e w1 ⟨v, c, rfl, hb, hR⟩
 replace hb := Lib.hid hb
 rcases hR with ⟨hU, hc, rfl⟩ | ⟨ts, hU, rfl, Q, hts⟩
 ·have hK2 : K = false := by rw [← hK.out]; exact keyA_none hU
  replace hU := Lib.hid hU
  replace hK2 := Lib.hid hK2
  dsimp only
  go_wp2_with fail
  go_ret
  exact ⟨by rw [hK2.out]; rfl, hb.out⟩
 have hp := unitsN_pos hU
 have h2 := unitsN_two hU
 obtain ⟨sv, cv, rfl, hcv, hcvm⟩ := Q.len
 unfold maxLen at hcvm
 obtain ⟨g, o, cap, hsl, -, -, -, hcell⟩ := (hH.out.bw hb.out).form (by rw [← hlen.out]; exact hp)
 simp only [Value.slice.injEq] at hsl
 obtain ⟨rfl, -, -⟩ := hsl
 have hl := hlen.out
 have z0 := hcell 0 (by omega)
 rw [Nat.add_zero] at z0
 have hn0 : 0 < n := by omega
 have b0 := ByL.get hby.out 0
 obtain ⟨D, hD⟩ : ∃ D : Bool, D = decide (l.getD 0 0 % 32 = 28 ∧ l.getD 1 0 < 128) := ⟨_, rfl⟩
 have hK2 : K = if D = true then false else ts.any isK := by
  rw [← hK.out, hD]
  by_cases k : l.getD 0 0 % 32 = 28 ∧ l.getD 1 0 < 128
  ·rw [keyA_no k, if_pos (decide_eq_true k)]
  ·rw [keyA_some hU k, if_neg (by rw [decide_eq_false k]; decide)]
 have hA : ts.any isK = (ts.drop 0).any isK := by rw [List.drop_zero]
 replace hU := Lib.hid hU
 replace hK2 := Lib.hid hK2
 replace hA := Lib.hid hA
 have fin : ∀ Dv : Bool, D = Dv → True := fun _ _ => trivial
 clear fin
 by_cases k1 : l.getD 0 0 % 32 = 28
 ·have z1 := hcell 1 (by have := h2 k1; omega)
  have b1 := ByL.get hby.out 1
  have hn1 : (1 : Int) < n := by have := h2 k1; omega
  have d1 : (((l.getD 0 0 : Nat) : Int) % 32 == 28) = true := beq_iff_eq.2 (by omega)
  by_cases k2 : l.getD 1 0 < 128
  ·have hR : K = false := by rw [hK2.out, if_pos (by rw [hD]; exact decide_eq_true ⟨k1, k2⟩)]
   have d2 : decide (((l.getD 1 0 : Nat) : Int) < 128) = true := decide_eq_true (by omega)
   clear hD h2 hcell
   generalize l.getD 0 0 = y at *
   generalize l.getD 1 0 = y1 at *
   replace hR := Lib.hid hR
   replace k1 := Lib.hid k1
   replace hl := Lib.hid hl
   replace Q := Lib.hid Q
   dsimp only
   go_wp2_with fail
   go_ret
   exact ⟨by rw [hR.out]; rfl, hb.out⟩
  ·have hR : K = ts.any isK := by rw [hK2.out, if_neg (by rw [hD]; simp only [decide_eq_true_eq]; omega)]
   have d2 : decide (((l.getD 1 0 : Nat) : Int) < 128) = false := decide_eq_false (by omega)
   clear hD h2 hcell
   generalize l.getD 0 0 = y at *
   generalize l.getD 1 0 = y1 at *
   replace hR := Lib.hid hR
   replace k1 := Lib.hid k1
   replace hl := Lib.hid hl
   replace Q := Lib.hid Q
   dsimp only
   go_upto_region 5 with (fail)
   rename World => wo
   go_loopg [5] ts.length (fun m' i wx => ∃ k : Nat, m' = ts.length - k ∧ k ≤ ts.length ∧ i = .int .i64 (k : Nat) ∧ Hid (ts.any isK = (ts.drop k).any isK) ∧ Hid (wo = wx))
   case atStart => exact ⟨0, by omega, by omega, rfl, hA, rfl⟩
   case round =>
    clear hA
    obtain ⟨k, rfl, hk, rfl, hA, hw⟩ := hrel
    obtain rfl := hw.out
    by_cases hkn : k < ts.length
    ·have d : decide ((k : Int) < (ts.length : Int)) = true := by simp; omega
     obtain ⟨g2, o2, rfl, hc⟩ := i1_form Q.out (by omega)
     have x0 := hc k hkn
     have hA2 := hA.out
     rw [List.drop_eq_getElem_cons hkn, List.any_cons] at hA2
     generalize ts[k] = t at *
     clear hc hA
     have hq : isK t = (t == 5 || t == 7 || t == 8) := rfl
     replace hA2 := Lib.hid hA2
     cases h5 : (t == 5) with
     | true =>
      rw [h5] at hq
      replace hq := Lib.hid hq
      go_wp2_with fail
      go_ret
      exact ⟨by rw [hR.out, hA2.out, hq.out]; rfl, hb.out⟩
     | false =>
      cases h7 : (t == 7) with
      | true =>
       rw [h5, h7] at hq
       replace hq := Lib.hid hq
       go_wp2_with fail
       go_ret
       exact ⟨by rw [hR.out, hA2.out, hq.out]; rfl, hb.out⟩
      | false =>
       cases h8 : (t == 8) with
       | true =>
        rw [h5, h7, h8] at hq
        replace hq := Lib.hid hq
        go_wp2_with fail
        go_ret
        exact ⟨by rw [hR.out, hA2.out, hq.out]; rfl, hb.out⟩
       | false =>
        rw [h5, h7, h8] at hq
        have hA3 : ts.any isK = (ts.drop (k + 1)).any isK := by rw [hA2.out, hq]; rfl
        replace hq := Lib.hid hq
        replace hA3 := Lib.hid hA3
        go_wp2_with fail
        go_roundg (ts.length - (k + 1))
        case measure => omega
        case rel => exact ⟨k + 1, rfl, by omega, by push_cast; rfl, hA3, rfl⟩
    ·obtain rfl : k = ts.length := by omega
     have d : decide ((ts.length : Int) < (ts.length : Int)) = false := by simp
     have hA2 : ts.any isK = false := by rw [hA.out, List.drop_of_length_le (Nat.le_refl _)]; rfl
     replace hA2 := Lib.hid hA2
     go_wp2_with fail
     go_ret
     exact ⟨by rw [hR.out, hA2.out]; rfl, hb.out⟩
 ·have hR : K = ts.any isK := by rw [hK2.out, if_neg (by rw [hD]; simp only [decide_eq_true_eq]; omega)]
  have d1 : (((l.getD 0 0 : Nat) : Int) % 32 == 28) = false := beq_eq_false_iff_ne.2 (by omega)
  clear hD h2 hcell
  generalize l.getD 0 0 = y at *
  replace hR := Lib.hid hR
  replace k1 := Lib.hid k1
  replace hl := Lib.hid hl
  replace Q := Lib.hid Q
  dsimp only
  go_upto_region 5 with (fail)
  rename World => wo
  go_loopg [5] ts.length (fun m' i wx => ∃ k : Nat, m' = ts.length - k ∧ k ≤ ts.length ∧ i = .int .i64 (k : Nat) ∧ Hid (ts.any isK = (ts.drop k).any isK) ∧ Hid (wo = wx))
  case atStart => exact ⟨0, by omega, by omega, rfl, hA, rfl⟩
  case round =>
   clear hA
   obtain ⟨k, rfl, hk, rfl, hA, hw⟩ := hrel
   obtain rfl := hw.out
   by_cases hkn : k < ts.length
   ·have d : decide ((k : Int) < (ts.length : Int)) = true := by simp; omega
    obtain ⟨g2, o2, rfl, hc⟩ := i1_form Q.out (by omega)
    have x0 := hc k hkn
    have hA2 := hA.out
    rw [List.drop_eq_getElem_cons hkn, List.any_cons] at hA2
    generalize ts[k] = t at *
    clear hc hA
    have hq : isK t = (t == 5 || t == 7 || t == 8) := rfl
    replace hA2 := Lib.hid hA2
    cases h5 : (t == 5) with
    | true =>
     rw [h5] at hq
     replace hq := Lib.hid hq
     go_wp2_with fail
     go_ret
     exact ⟨by rw [hR.out, hA2.out, hq.out]; rfl, hb.out⟩
    | false =>
     cases h7 : (t == 7) with
     | true =>
      rw [h5, h7] at hq
      replace hq := Lib.hid hq
      go_wp2_with fail
      go_ret
      exact ⟨by rw [hR.out, hA2.out, hq.out]; rfl, hb.out⟩
     | false =>
      cases h8 : (t == 8) with
      | true =>
       rw [h5, h7, h8] at hq
       replace hq := Lib.hid hq
       go_wp2_with fail
       go_ret
       exact ⟨by rw [hR.out, hA2.out, hq.out]; rfl, hb.out⟩
      | false =>
       rw [h5, h7, h8] at hq
       have hA3 : ts.any isK = (ts.drop (k + 1)).any isK := by rw [hA2.out, hq]; rfl
       replace hq := Lib.hid hq
       replace hA3 := Lib.hid hA3
       go_wp2_with fail
       go_roundg (ts.length - (k + 1))
       case measure => omega
       case rel => exact ⟨k + 1, rfl, by omega, by push_cast; rfl, hA3, rfl⟩
   ·obtain rfl : k = ts.length := by omega
    have d : decide ((ts.length : Int) < (ts.length : Int)) = false := by simp
    have hA2 : ts.any isK = false := by rw [hA.out, List.drop_of_length_le (Nat.le_refl _)]; rfl
    replace hA2 := Lib.hid hA2
    go_wp2_with fail
    go_ret
    exact ⟨by rw [hR.out, hA2.out]; rfl, hb.out⟩
end Go.Proofs.Ytojedpahaifjgaa
