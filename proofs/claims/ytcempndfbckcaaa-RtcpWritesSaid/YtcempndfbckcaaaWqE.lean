/- The reference's Write of any packets. No condition but the sizes'. -/
import Derived.Test.YtcempndfbckcaaaWqD
import Derived.Test.YtcempndfbckcaaaGX4
namespace Go.Proofs.Ytcempndfbckcaaa
open Go.RowKit
theorem rmay_ok (c : Ctl) (wf : CtlWf c) (sm : CtlSm c) (vr vn vs vl vf : Value) (w : World) (hR : CtlR w c vr vn vs vl vf) :
  Calls Try.prog 86 #[.agg (ctlC c vr vn vs vl vf).toArray] w fun e w' => e = .returned (.bool (mayC c)) ∧ BW w w' := by
 obtain ⟨k, s, m, t, st, pk, oc, reps, nams, srcs, loss, firs, rt⟩ := c
 obtain ⟨b1, b2, b3, b4, b5, b6, b7, b8, b9, b10, b11, b12, b13⟩ := wf
 obtain ⟨q1, q2, q3, q4, q5, q6⟩ := sm
 obtain ⟨r1, r2, r3, r4, r5⟩ := hR
 obtain ⟨ar, cr, rfl, -, -⟩ := r1.len
 obtain ⟨an, cn, rfl, -, -⟩ := r2.len
 obtain ⟨as_, cs, rfl, -, -⟩ := r3.len
 obtain ⟨al, cl_, rfl, -, -⟩ := r4.len
 obtain ⟨af, cf, rfl, -, -⟩ := r5.len
 exact rmay_gen k s m t st pk oc rt ar an as_ al af _ _ _ _ _ cr cn cs cl_ cf b8 ⟨q1, q2, q3, q4, q5⟩ reps nams srcs loss firs (fun p hp => by have := q6 p hp; omega) w r1 r2 r3 r4 r5
theorem rone_ok (c : Ctl) (hM : mayC c = true) (wf : CtlWf c) (sm : CtlSm c) (vr vn vs vl vf : Value) (w : World) (hR : CtlR w c vr vn vs vl vf) :
  Calls Try.prog 88 #[.agg (ctlC c vr vn vs vl vf).toArray, .int .u64 (manN c.rt : Nat), .int .i64 (expN c.rt : Nat)] w fun e w' => ∃ q k, e = .returned (.slice q (partB c).length k) ∧ OB w' w.heap.size 5 (.slice q (partB c).length k) (partB c).length (partB c) ∧ BW w w' := by
 obtain ⟨k, s, m, t, st, pk, oc, reps, nams, srcs, loss, firs, rt⟩ := c
 obtain ⟨r1, r2, r3, r4, r5⟩ := hR
 obtain ⟨ar, cr, rfl, -, -⟩ := r1.len
 obtain ⟨an, cn, rfl, -, -⟩ := r2.len
 obtain ⟨as_, cs, rfl, -, -⟩ := r3.len
 obtain ⟨al, cl_, rfl, -, -⟩ := r4.len
 obtain ⟨af, cf, rfl, -, -⟩ := r5.len
 exact rone_gen k s m t st pk oc rt ar an as_ al af _ _ _ _ _ cr cn cs cl_ cf reps nams srcs loss firs hM wf sm w r1 r2 r3 r4 r5
inductive RWritePost (L : List Ctl) (w : World) (e : Ending) (w' : World) : Prop
 | no (h : okW L = false) (s : Option Addr) (m c : Nat) (he : e = .returned (.tuple #[.slice s m c, .bool false])) (hb : BW w w')
 | yes (h : okW L = true) (s : Option Addr) (c : Nat) (he : e = .returned (.tuple #[.slice s (partsB L).length c, .bool true])) (ho : OB w' w.heap.size 5 (.slice s (partsB L).length c) (partsB L).length (partsB L)) (hb : BW w w')
set_option maxRecDepth 100000 in
set_option maxHeartbeats 8000000 in
theorem rwrite_ok (L : List Ctl) (n : Nat) (v : Value) (hn : n ≤ 1000) (hwf : ∀ c ∈ L, CtlWf c) (hsm : ∀ c ∈ L, CtlSm c) (w : World) (hv : CtlsR w v n L) :
  Calls Try.prog 54 #[v] w (RWritePost L w) := by
 obtain ⟨sa, cap, rfl, hc1, hc2⟩ := hv.sl
 unfold maxLen at hc2
 have hxl := hv.len
 by_cases h0 : n = 0
 ·have d1 : decide ((n : Int) < 1) = true := by simp; omega
  have hF : okW L = false := by unfold okW; rw [decide_eq_false (by omega)]; rfl
  clear hv hwf hsm hxl
  replace hF := Lib.hid hF
  go_enter Try.func54, Try.ntmps54
  go_wp2_with fail
  go_ret2
  exact .no hF.out _ _ _ rfl (BW.refl w)
 have d1 : decide ((n : Int) < 1) = false := by simp; omega
 by_cases h8 : 8 < n
 ·have d2 : decide ((8 : Int) < (n : Int)) = true := by simp; omega
  have hF : okW L = false := by unfold okW; rw [decide_eq_false (by omega)]; rfl
  clear hv hwf hsm hxl
  replace hF := Lib.hid hF
  go_enter Try.func54, Try.ntmps54
  go_wp2_with fail
  go_ret2
  exact .no hF.out _ _ _ rfl (BW.refl w)
 have d2 : decide ((8 : Int) < (n : Int)) = false := by simp; omega
 have hst := fun k (h : k < L.length) => partsB_snoc L k h
 have hbad := fun k (h : k < L.length) hm => okW_bad k h hm
 have hOK : okW L = (decide (1 ≤ L.length ∧ L.length ≤ 8) && L.all mayC && decide ((partsB L).length ≤ 1200)) := rfl
 rw [decide_eq_true (by omega), Bool.true_and] at hOK
 have hfull : partsB (L.take n) = partsB L := by rw [← hxl, List.take_length]
 have hfulA : (L.take n).all mayC = L.all mayC := by rw [← hxl, List.take_length]
 have hV := Lib.hid hv
 clear hv
 replace hst := Lib.hid hst
 replace hbad := Lib.hid hbad
 replace hOK := Lib.hid hOK
 replace hfull := Lib.hid hfull
 replace hfulA := Lib.hid hfulA
 replace hxl := Lib.hid hxl
 replace hwf := Lib.hid hwf
 replace hsm := Lib.hid hsm
 go_enter Try.func54, Try.ntmps54
 go_upto_region 5 with (fail)
 clear d1 d2
 go_loopg [4, 5] n (fun m' x a wx => ∃ (k m : Nat) (so : Option Addr) (co : Nat), m' = n - k ∧ k ≤ n ∧ a = .int .i64 (k : Nat) ∧ x = .slice so m co ∧ m ≤ co ∧ co ≤ 9223372036854775807 ∧ m ≤ 2004 * k ∧ Hid ((L.take k).all mayC = true) ∧ Hid (OB wx w.heap.size 5 (.slice so m co) m (partsB (L.take k))) ∧ Hid (BW w wx))
 case atStart => exact ⟨0, 0, none, 0, rfl, by omega, rfl, rfl, Nat.le_refl _, by omega, by omega, by show _ = _; simp, Lib.hid (by simpa [partsB] using OB.nil _ _ _), BW.refl _⟩
 case round =>
  obtain ⟨k, m, so, co, rfl, hk, rfl, rfl, hmc, hco, hm, hA, O, B⟩ := hrel
  by_cases hkn : k < n
  ·have d : decide ((k : Int) < (n : Int)) = true := by simp; omega
   have hkl : k < L.length := by rw [hxl.out]; exact hkn
   obtain ⟨b, o, rfl, hb, hcc⟩ := (hV.out.bw B.out).row _ _ rfl (by omega)
   obtain ⟨vr, vn, vs, vl, vf, hce, hR⟩ := hcc k hkl
   have hs1 := hst.out k hkl
   have wf := hwf.out _ (List.getElem_mem hkl)
   have sm := hsm.out _ (List.getElem_mem hkl)
   have hb0 := hbad.out k hkl
   have hnx : (L.take (k + 1)).all mayC = ((L.take k).all mayC && mayC (L[k])) := by rw [List.take_succ_eq_append_getElem hkl, List.all_append]; simp
   obtain ⟨a1, k1, rfl, -, -⟩ := hR.r.len
   obtain ⟨a2, k2, rfl, -, -⟩ := hR.n.len
   obtain ⟨a3, k3, rfl, -, -⟩ := hR.s.len
   obtain ⟨a4, k4, rfl, -, -⟩ := hR.l.len
   obtain ⟨a5, k5, rfl, -, -⟩ := hR.f.len
   clear hcc
   generalize L[k] = c at *
   have hR1 := Lib.hid hR
   have cM := fun wz (h : BW wr wz) => Lib.hid (rmay_ok c wf sm _ _ _ _ _ wz (hR1.out.bw h))
   have bnd := fun h => may_bnd (c := c) h sm
   have hPL : (partB c).length = 4 + (bodyW c).length := by unfold partB; rw [List.length_append, List.length_append, putB_len]; simp <;> omega
   have cO := fun (hq : mayC c = true) wz (h : BW wr wz) => Lib.hid (rone_ok c hq wf sm _ _ _ _ _ wz (hR1.out.bw h))
   have cR := fun wz => Lib.hid (rrate_ok c.rt wf.rt wz)
   generalize bodyW c = bw at *
   generalize partB c = pb at *
   generalize hmc0 : mayC c = mc at *
   obtain ⟨ck, cs, cm, ct, cst, cpk, coc, reps, nams, srcs, loss, firs, crt⟩ := c
   dsimp only at hce cM cO cR
   clear hR hR1 wf sm hmc0
   generalize reps.length = nr at *
   generalize nams.length = nn at *
   generalize srcs.length = ns at *
   generalize loss.length = nl at *
   generalize firs.length = nf at *
   generalize manN crt = mn at *
   generalize expN crt = ex at *
   have y0 : wr.cell? ⟨b, o + k * 13, none⟩ = some (.int .i64 ck) := hce 0 (by decide)
   have y1 : wr.cell? ⟨b, o + k * 13 + 1, none⟩ = some (.int .u32 (cs : Nat)) := hce 1 (by decide)
   have y2 : wr.cell? ⟨b, o + k * 13 + 2, none⟩ = some (.int .u32 (cm : Nat)) := hce 2 (by decide)
   have y3 : wr.cell? ⟨b, o + k * 13 + 3, none⟩ = some (.int .u64 (ct : Nat)) := hce 3 (by decide)
   have y4 : wr.cell? ⟨b, o + k * 13 + 4, none⟩ = some (.int .u32 (cst : Nat)) := hce 4 (by decide)
   have y5 : wr.cell? ⟨b, o + k * 13 + 5, none⟩ = some (.int .u32 (cpk : Nat)) := hce 5 (by decide)
   have y6 : wr.cell? ⟨b, o + k * 13 + 6, none⟩ = some (.int .u32 (coc : Nat)) := hce 6 (by decide)
   have y7 : wr.cell? ⟨b, o + k * 13 + 7, none⟩ = some (.slice a1 nr k1) := hce 7 (by decide)
   have y8 : wr.cell? ⟨b, o + k * 13 + 8, none⟩ = some (.slice a2 nn k2) := hce 8 (by decide)
   have y9 : wr.cell? ⟨b, o + k * 13 + 9, none⟩ = some (.slice a3 ns k3) := hce 9 (by decide)
   have y10 : wr.cell? ⟨b, o + k * 13 + 10, none⟩ = some (.slice a4 nl k4) := hce 10 (by decide)
   have y11 : wr.cell? ⟨b, o + k * 13 + 11, none⟩ = some (.slice a5 nf k5) := hce 11 (by decide)
   have y12 : wr.cell? ⟨b, o + k * 13 + 12, none⟩ = some (.int .u64 (crt : Nat)) := hce 12 (by decide)
   clear hce
   replace hnx := Lib.hid hnx
   replace hs1 := Lib.hid hs1
   replace hb0 := Lib.hid hb0
   replace bnd := Lib.hid bnd
   replace hPL := Lib.hid hPL
   go_wp2_with fail
   refine Calls.mono (cM wr (BW.refl wr)).out ?_
   rintro e w2 ⟨rfl, hb2⟩
   replace y0 := hb2.cell y0
   replace y1 := hb2.cell y1
   replace y2 := hb2.cell y2
   replace y3 := hb2.cell y3
   replace y4 := hb2.cell y4
   replace y5 := hb2.cell y5
   replace y6 := hb2.cell y6
   replace y7 := hb2.cell y7
   replace y8 := hb2.cell y8
   replace y9 := hb2.cell y9
   replace y10 := hb2.cell y10
   replace y11 := hb2.cell y11
   replace y12 := hb2.cell y12
   have B2 := Lib.hid (B.out.trans hb2)
   have O2 := Lib.hid (O.out.bw hb2)
   have hb2h := Lib.hid hb2
   clear hb2 cM
   dsimp only
   cases mc with
   | false =>
    have hF := hb0.out rfl
    clear bnd cO hb0 hnx hs1 O B hA
    replace hF := Lib.hid hF
    go_wp2_with fail
    go_ret2
    exact .no hF.out _ _ _ rfl B2.out
   | true =>
    obtain ⟨q1, q2, q3⟩ := bnd.out rfl
    have cO2 := cO rfl
    clear bnd hb0 cO q1 q2 O B
    go_upto_region 9 with (fail)
    go_wp2_with fail
    refine Calls.mono (cR w2).out ?_
    rintro e w' ⟨rfl, rfl⟩
    dsimp only
    clear cR
    have hpl := hPL.out
    have cO3 := cO2 w2 hb2h.out
    clear cO2
    have hpl2 : pb.length ≤ 2004 := by omega
    generalize hq : pb.length = np at *
    replace hq := Lib.hid hq
    replace hPL := Lib.hid hPL
    clear hpl q3
    go_wp2_with fail
    refine Calls.mono cO3.out ?_
    rintro e w3 ⟨s3, c3, rfl, O3, hb3⟩
    replace O3 := Lib.hid O3
    have B3 := Lib.hid (B2.out.trans hb3)
    have O4 := Lib.hid (O2.out.bw hb3)
    clear hb3 cO3 O2 B2 y0 y1 y2 y3 y4 y5 y6 y7 y8 y9 y10 y11 y12
    dsimp only
    go_wp2_with (at_builtin; go_must (refine wpList_apOB rfl _ _ rfl w.heap.size _ _ _ rfl (O4.out) _ rfl _ _ (O3.out.sb) (by omega) (BW.trans B3.out (by repeat (first | exact BW.refl _ | apply BW.alloc | apply BW.drewN | apply BW.drew))).size ?_; intro s4 c4 w4 hcc4 hmc4 O5 hT hb hG; unfold maxLen at hmc4; replace hG := Lib.hid hG; replace hT := Lib.hid hT; skip))
    replace B3 := Lib.hid (BW.step (BW.trans B3.out (by repeat (first | exact BW.refl _ | apply BW.alloc | apply BW.drewN | apply BW.drew))) hb (Nat.le_refl _))
    replace O5 := Lib.hid O5
    clear hb
    clear hT hG O3 O4
    have hs2 : partsB (L.take (k + 1)) = partsB (L.take k) ++ pb := hs1.out
    rw [← hs2] at O5
    have hA2 : Hid ((L.take (k + 1)).all mayC = true) := by show _ = _; rw [hnx.out, hA.out]; rfl
    replace hs2 := Lib.hid hs2
    clear hnx hs1 hA
    go_roundg (n - (k + 1))
    case measure => omega
    case rel => exact ⟨k + 1, m + np, s4, c4, rfl, by omega, by push_cast; rfl, rfl, by omega, by omega, by omega, hA2, O5, B3⟩
  ·obtain rfl : k = n := by omega
   have d : decide ((k : Int) < (k : Int)) = false := by simp
   have hml := O.out.1
   rw [hfull.out] at O hml
   have hOK2 := hOK.out
   rw [← hfulA.out, hA.out, Bool.true_and] at hOK2
   by_cases hq : m ≤ 1200
   ·have d5 : decide ((m : Int) ≤ 1200) = true := by simp; omega
    have hok : Hid (okW L = true) := by show _ = _; rw [hOK2]; exact decide_eq_true (by omega)
    replace hOK2 := Lib.hid hOK2
    replace hml := Lib.hid hml
    go_wp2_with fail
    go_ret2
    exact .yes hok.out so co (by rw [hml.out]; rfl) (by rw [hml.out]; exact O.out) B.out
   ·have d5 : decide ((m : Int) ≤ 1200) = false := by simp; omega
    have hok : Hid (okW L = false) := by show _ = _; rw [hOK2]; exact decide_eq_false (by omega)
    replace hOK2 := Lib.hid hOK2
    replace hml := Lib.hid hml
    go_wp2_with fail
    go_ret2
    exact .no hok.out _ _ _ rfl B.out
end Go.Proofs.Ytcempndfbckcaaa
