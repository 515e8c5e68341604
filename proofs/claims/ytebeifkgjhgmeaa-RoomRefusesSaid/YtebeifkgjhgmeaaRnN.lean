/- The law RoomRefuses; printed by wip/gen/genRnN.py. No condition. -/
import Derived.Test.YtebeifkgjhgmeaaRnM
namespace Go.Proofs.Ytebeifkgjhgmeaa
open Go.RowKit
def NoP (w : World) (k : Nat) : Prop := w.heap.size ≤ k ∨ ∃ cs t f, w.heap[k]? = some (.cells cs t f) ∧ t ≠ 3 ∧ t ≠ 50
theorem EQ.apartP {α : Type} {E : Elt α} {T : TypeId} {w : World} {base : Nat} {v : Value} {n : Nat} {l : List α} (h : EQ E T w base v n l) (hT : T = 3 ∨ T = 50) {S : List Nat} (hS : ∀ k ∈ S, NoP w k) : ∀ g, v.ownBlock = some g → g ∉ S := fun g hg hm => by
 rcases hS g hm with hk | ⟨cs, t, f, h1, h2, h3⟩
 ·have := h.lt' g hg; omega
 ·rcases hT with rfl | rfl
  ·exact h.ne h1 h2 g hg rfl
  ·exact h.ne h1 h3 g hg rfl
def EMq : Elt Mem where
 size := 9
 R := fun w b q cs => ∃ va vb vs, cs = memC q va vb vs ∧ MV w b q va vb vs
 Ok := NoP
 pos := by decide
 len := fun ⟨_, _, _, e, _⟩ => by rw [e]; rfl
 one := fun ⟨va, vb, vs, e, h⟩ u hu => by
  obtain ⟨_, _, e1, _⟩ := h.a.len
  obtain ⟨_, _, e2, _⟩ := h.b.len
  obtain ⟨_, _, e3, _⟩ := h.s.len
  rw [e] at hu
  simp only [memC, List.mem_cons, List.not_mem_nil, or_false] at hu
  rcases hu with rfl | rfl | rfl | rfl | rfl | rfl | rfl | rfl | rfl <;> first | rfl | (rw [e1]; rfl) | (rw [e2]; rfl) | (rw [e3]; rfl)
 bw := fun ⟨va, vb, vs, e, h⟩ hb => ⟨va, vb, vs, e, h.bw hb⟩
 up := fun ⟨va, vb, vs, e, h⟩ hb => ⟨va, vb, vs, e, h.a.up hb, h.b.up hb, h.s.up hb⟩
 still := fun ⟨va, vb, vs, e, h⟩ hs hS => ⟨va, vb, vs, e, h.a.still hs (fun _ _ => trivial) (h.a.apartP (.inl rfl) hS), h.b.still hs (fun _ _ => trivial) (h.b.apartP (.inl rfl) hS), h.s.still hs (fun _ _ => trivial) (h.s.apartP (.inr rfl) hS)⟩
 old := fun ⟨va, vb, vs, e, h⟩ hs hS => ⟨va, vb, vs, e, h.a.old hs hS, h.b.old hs hS, h.s.old hs hS⟩
set_option maxRecDepth 100000 in
set_option maxHeartbeats 8000000 in
theorem law_refuses (sa : Option Addr) (n cap : Nat) (sb : Option Addr) (m capb : Nat) (fc : Array Value) (wO : World) (h0 : Rd wO (.loop seatTy) [.slice sa n cap]) (h1 : Rd wO (.loop frTy) [.slice sb m capb]) (h2 : Rd wO frTy fc.toList) :
  Calls Try.prog 4 #[.slice sa n cap, .slice sb m capb, .agg fc] wO fun e w' => e = .returned (.bool true) ∧ Below wO.heap.size wO w' := by
 obtain ⟨X, hX, hSe, hnc, hcap⟩ := seats_of_Rd h0
 obtain ⟨hFr, hmc, hcapb⟩ := frs_of_Rd h1
 obtain ⟨⟨fkd, fst, fnn, frm, ftr, fow, fly, fsf, fnf, fcf, fF⟩, hfc, hfo⟩ := fr_of_Rd h2
 obtain rfl : fc = frA fkd fst (fnn : Nat) frm ftr fow fly fsf fnf fcf := by
  have := congrArg List.toArray hfc
  simpa [FrD.A] using this
 unfold maxLen at hcap hcapb
 have hfown : 0 < fnf → ∀ g, (Value.slice fsf fnf fcf).ownBlock = some g → g < wO.heap.size := fun h0 => hfo.sq.own h0
 have BA : BW wO (wO.alloc (.cells (frA fkd fst (fnn : Nat) frm ftr fow fly fsf fnf fcf) 32)) := (BW.refl wO).alloc
 have F5 := Lib.hid (HpB.new wO (.cells (frA fkd fst (fnn : Nat) frm ftr fow fly fsf fnf fcf) 32))
 have hSe1 := hSe.bw BA
 have hFr1 := hFr.bw BA
 have hfo1 := hfo.bw BA
 have BO := Lib.hid BA
 have hfown1 : Hid (0 < fnf → ∀ g, (Value.slice fsf fnf fcf).ownBlock = some g → g < (wO.alloc (.cells (frA fkd fst (fnn : Nat) frm ftr fow fly fsf fnf fcf) 32)).heap.size) := Lib.hid (fun q0 g hg => Nat.lt_of_lt_of_le (hfown q0 g hg) BA.size)
 clear h0 h1 h2 hfc hfo BA hSe hFr hfown
 replace hFr := Lib.hid hFr1
 clear hFr1
 replace hfo1 := Lib.hid hfo1
 unfold frA at *
 go_enter Try.func4, Try.ntmps4
 go_wp2_with fail
 generalize wO.alloc _ = w at *
 generalize hg5 : wO.heap.size = g5 at *
 have hg5w : Hid (g5 < w.heap.size) := Lib.hid F5.out.lt
 replace hg5 := Lib.hid hg5
 refine Calls.mono (room_alive w) ?_
 rintro e w1 ⟨rfl, hb1⟩
 dsimp only
 go_wp2_with fail
 refine Calls.mono (src_ok sa n cap X hX hnc hcap w1 (hSe1.bw hb1)) ?_
 rintro e _ ⟨b, rfl, h20, rfl⟩
 replace hb1 := Lib.hid hb1
 cases b with
 | false =>
  dsimp only
  go_wp2_with fail
  go_ret
  exact ⟨rfl, BO.out.trans hb1.out⟩
 | true =>
 replace h20 := Lib.hid (h20 rfl)
 have F1 := Lib.hid (F5.out.bw hb1.out)
 have cG := Lib.hid (great_ok fkd fst (fnn : Nat) frm ftr fow fly fsf fnf fcf w1)
 unfold frA at cG
 dsimp only
 have zf0 := hp_cell (F1.out) 0
 have zf1 := hp_cell (F1.out) 1
 have zf2 := hp_cell (F1.out) 2
 have zf3 := hp_cell (F1.out) 3
 have zf4 := hp_cell (F1.out) 4
 have zf5 := hp_cell (F1.out) 5
 have zf6 := hp_cell (F1.out) 6
 have zf7 := hp_cell (F1.out) 7
 simp only [List.getElem?_toArray, List.getElem?_cons_zero, List.getElem?_cons_succ] at zf0 zf1 zf2 zf3 zf4 zf5 zf6 zf7
 go_wp2_with fail
 clear zf0 zf1 zf2 zf3 zf4 zf5 zf6 zf7
 refine Calls.mono cG.out ?_
 rintro e w2' ⟨rfl, hb2'⟩
 clear cG
 replace hb1 := Lib.hid (hb1.out.trans hb2')
 clear hb2'
 by_cases h40f : 40 < fnf
 ·have d4 : decide ((40 : Int) < (fnf : Int)) = true := by simp; omega
  rw [d4]
  dsimp only
  go_wp2_with fail
  go_ret
  exact ⟨rfl, BO.out.trans hb1.out⟩
 have d4 : decide ((40 : Int) < (fnf : Int)) = false := by simp; omega
 rw [d4]
 replace h40f := Lib.hid h40f
 clear d4
 have cN := Lib.hid (hs_new sa n cap X hX hnc hcap h20.out w2' (hSe1.bw hb1.out))
 have hSl : Hid (∀ s ∈ X.take (min n 6), s.length ≤ 20) := Lib.hid (fun s hs => h20.out s (List.mem_of_mem_take hs))
 clear h20
 dsimp only
 go_wp2_with fail
 refine Calls.mono cN.out ?_
 rintro e w2 ⟨gh, T, rfl, H2, hb2⟩
 clear cN hSl F1
 generalize X.take (min n 6) = S at *
 generalize List.replicate (min n 6) mem0 = H0 at *
 have hbase := Lib.hid hb1.out.size
 generalize hbs : w2'.heap.size = base at *
 replace H2 := Lib.hid H2
 have B2 := Lib.hid (hb1.out.trans hb2)
 clear hb2 hb1
 replace hbs := Lib.hid hbs
 dsimp only
 go_upto_block 0 with (fail)
 go_cut [] (fun wc => ∃ (H : List Mem) (T : List Nat), Hid (HS wc base gh S H T) ∧ Hid (BW w wc))
 case first =>
  go_upto_region 9 with (fail)
  go_loopg [8] m (fun m' ix wx => ∃ (k : Nat) (H : List Mem) (T : List Nat), m' = m - k ∧ k ≤ m ∧ ix = .int .i64 (k : Nat) ∧ Hid (HS wx base gh S H T) ∧ Hid (BW w wx))
  case atStart => exact ⟨0, H0, T, by omega, by omega, rfl, H2, B2⟩
  case round =>
   clear H2 B2
   obtain ⟨k, H, T, rfl, hk, rfl, H3, B3⟩ := hrel
   by_cases hkm : k < m
   ·have d1 : decide ((k : Int) < (m : Int)) = true := by simp; omega
    by_cases hk6 : k < 60
    ·have d2 : decide ((k : Int) < 60) = true := by simp; omega
     obtain ⟨b, o, ⟨kd, st, nn, rm, tr, ow, ly, sf, nf, cf, F⟩, rfl, hR0, hok, hown⟩ := hFr.out k hkm
     have hR : Hid (wr.rangeAt b (o + k * 8) (frA kd st (nn : Nat) rm tr ow ly sf nf cf).toList) := Lib.hid (rangeAt_bw hR0 B3.out)
     have cG := Lib.hid (great_ok kd st (nn : Nat) rm tr ow ly sf nf cf wr)
     have hok2 := Lib.hid (hok.bw B3.out)
     have hsf : Hid (0 < nf → ∀ g, (Value.slice sf nf cf).ownBlock = some g → g ∉ T) := Lib.hid (fun q0 g hg hm => by
      have h1 := hown q0 g hg
      have h2 := (H3.out.ht g hm).1
      have h3 := hbase.out
      omega)
     clear hR0 hok hown
     go_wp2_with (refine swLdC swFr rfl rfl rfl hR.out rfl ?_)
     refine Calls.mono cG.out ?_
     rintro e w4 ⟨rfl, hb4⟩
     replace H3 := Lib.hid (H3.out.bw hb4)
     replace B3 := Lib.hid (B3.out.trans hb4)
     replace hR := Lib.hid (rangeAt_bw hR.out hb4)
     replace hok2 := Lib.hid (hok2.out.bw hb4)
     clear cG hb4
     by_cases h40 : 40 < nf
     ·have d4 : decide ((40 : Int) < (nf : Int)) = true := by simp; omega
      rw [d4]
      dsimp only
      go_wp2_with fail
      go_ret
      exact ⟨rfl, BO.out.trans B3.out⟩
     have d4 : decide ((40 : Int) < (nf : Int)) = false := by simp; omega
     rw [d4]
     have cD := Lib.hid (hs_do base gh S H T kd st rm tr ow ly nn hok2.out.nn sf nf cf F w4 H3.out hok2.out.sq hok2.out.F (by omega) hsf.out)
     clear h40
     dsimp only
     go_wp2_with (refine swLdC swFr rfl rfl rfl hR.out rfl ?_)
     refine Calls.mono cD.out ?_
     rintro e w5 ⟨H', T', cd, v, sc, nc, cc, rfl, -, -, -, H5, hT⟩
     replace B3 := Lib.hid (BW.stP B3.out hT (fun g hg => Nat.le_trans hbase.out (H3.out.ht g hg).1))
     replace H5 := Lib.hid H5
     clear cD hT H3 hR hok2 hsf
     dsimp only
     go_wp2_with fail
     go_roundg (m - (k + 1))
     case measure => omega
     case rel => exact ⟨k + 1, H', T', rfl, by omega, by first | rfl | (push_cast; rfl), H5, B3⟩
    ·have d2 : decide ((k : Int) < 60) = false := by simp; omega
     go_wp2_with fail
     go_meet
     exact ⟨H, T, H3, B3⟩
   ·have d1 : decide ((k : Int) < (m : Int)) = false := by simp; omega
    go_wp2_with fail
    go_meet
    exact ⟨H, T, H3, B3⟩
 case rest =>
  clear H2 B2
  obtain ⟨H, T, H3, B3⟩ := hcut
  generalize hbo : wc.heap.size = bo at *
  replace hbo := Lib.hid hbo
  go_upto_region 16 with (fail)
  go_loopg [9, 10] 6 (fun m' av ix wx => ∃ (k : Nat) (s1 : Option Addr) (c1 : Nat) (Q : List Mem), m' = 6 - k ∧ k ≤ 6 ∧ ix = .int .i64 (k : Nat) ∧ av = .slice s1 k c1 ∧ c1 ≤ 9223372036854775807 ∧ Hid (∀ i (hi : i < Q.length), H[i]? = some Q[i] ∨ (H.length ≤ i ∧ Q[i] = memZ)) ∧ Hid (EQ EMq 45 wx bo (.slice s1 k c1) k Q) ∧ Hid (BW wc wx))
  case atStart => exact ⟨0, none, 0, [], by omega, by omega, rfl, rfl, by omega, (fun i hi => absurd hi (Nat.not_lt_zero i)), EQ.nil _ _ _ _, BW.refl _⟩
  case round =>
   obtain ⟨k, s1, c1, Q, rfl, hk, rfl, rfl, hc1, hQ, E4, B4⟩ := hrel
   have hQl := E4.out.1
   by_cases hk6 : k < 6
   ·have d1 : decide ((k : Int) < 6) = true := by simp; omega
    have cM := Lib.hid (hs_member base gh S H T (k : Nat) wr (H3.out.bw B4.out))
    go_wp2_with fail
    refine Calls.mono cM.out ?_
    rintro e w5 ⟨q, va, vb, vs, ok, rfl, hMV, hb5, hor⟩
    have hq : Hid (∀ i (hi : i < (Q ++ [q]).length), H[i]? = some (Q ++ [q])[i] ∨ (H.length ≤ i ∧ (Q ++ [q])[i] = memZ)) := Lib.hid (fun i hi => by
     rw [List.length_append] at hi
     have hi1 : i < Q.length + 1 := hi
     by_cases e : i < Q.length
     ·rw [List.getElem_append_left e]
      exact hQ.out i e
     ·obtain rfl : i = Q.length := by omega
      rw [List.getElem_append_right (Nat.le_refl _)]
      simp only [Nat.sub_self, List.getElem_cons_zero]
      rw [hQl]
      rcases hor with ⟨-, s', e1, e2⟩ | ⟨-, e1, rfl⟩
      ·obtain rfl : k = s' := by omega
       exact .inl e2
      ·exact .inr ⟨by omega, rfl⟩)
    obtain ⟨sa9, ca9, rfl, -, -⟩ := hMV.a.len
    obtain ⟨sb9, cb9, rfl, -, -⟩ := hMV.b.len
    obtain ⟨ss9, cs9, rfl, -, -⟩ := hMV.s.len
    have BA : BW w5 ((w5.alloc (.cells (memA q (.slice sa9 q.a.p.length ca9) (.slice sb9 q.b.p.length cb9) (.slice ss9 q.subs.length cs9)) 45)).alloc (.cells (memA q (.slice sa9 q.a.p.length ca9) (.slice sb9 q.b.p.length cb9) (.slice ss9 q.subs.length cs9)) 45)) := ((BW.refl w5).alloc).alloc
    have M6 := Lib.hid (HpB.new w5 (.cells (memA q (.slice sa9 q.a.p.length ca9) (.slice sb9 q.b.p.length cb9) (.slice ss9 q.subs.length cs9)) 45))
    have L7 : Hid (Sls ((w5.alloc (.cells (memA q (.slice sa9 q.a.p.length ca9) (.slice sb9 q.b.p.length cb9) (.slice ss9 q.subs.length cs9)) 45)).alloc (.cells (memA q (.slice sa9 q.a.p.length ca9) (.slice sb9 q.b.p.length cb9) (.slice ss9 q.subs.length cs9)) 45)) EMq.size (.slice (some ⟨w5.heap.size + 1, 0, none⟩) 1 1) 1 (memC q (.slice sa9 q.a.p.length ca9) (.slice sb9 q.b.p.length cb9) (.slice ss9 q.subs.length cs9))) := by
     have h := Sls.new1 (E := EMq) (w5.alloc (.cells (memA q (.slice sa9 q.a.p.length ca9) (.slice sb9 q.b.p.length cb9) (.slice ss9 q.subs.length cs9)) 45)) 45 (memC q (.slice sa9 q.a.p.length ca9) (.slice sb9 q.b.p.length cb9) (.slice ss9 q.subs.length cs9)) rfl
     rw [World.size_alloc] at h
     exact Lib.hid h
    have V7 := Lib.hid (hMV.bw BA)
    have E7 := Lib.hid (E4.out.bw (hb5.trans BA))
    have B7 := Lib.hid ((B4.out.trans hb5).trans BA)
    have hz7 := Lib.hid (Nat.le_trans (Nat.le_of_eq hbo.out.symm) B7.out.size)
    have hbr := Nat.le_trans (Nat.le_of_eq hbo.out.symm) B4.out.size
    have hel : Hid (EMq.R ((w5.alloc (.cells (memA q (.slice sa9 q.a.p.length ca9) (.slice sb9 q.b.p.length cb9) (.slice ss9 q.subs.length cs9)) 45)).alloc (.cells (memA q (.slice sa9 q.a.p.length ca9) (.slice sb9 q.b.p.length cb9) (.slice ss9 q.subs.length cs9)) 45)) bo q (memC q (.slice sa9 q.a.p.length ca9) (.slice sb9 q.b.p.length cb9) (.slice ss9 q.subs.length cs9))) := Lib.hid ⟨_, _, _, rfl, V7.out.a.up hbr, V7.out.b.up hbr, V7.out.s.up hbr⟩
    have hok7 : Hid (∀ j ∈ (Value.slice s1 k c1).ownBlock.toList, EMq.Ok ((w5.alloc (.cells (memA q (.slice sa9 q.a.p.length ca9) (.slice sb9 q.b.p.length cb9) (.slice ss9 q.subs.length cs9)) 45)).alloc (.cells (memA q (.slice sa9 q.a.p.length ca9) (.slice sb9 q.b.p.length cb9) (.slice ss9 q.subs.length cs9)) 45)) j) := Lib.hid (fun j hj => (by
     obtain ⟨cs, hcs⟩ := E7.out.row j (by simpa using hj)
     exact .inr ⟨cs, _, _, hcs, by decide, by decide⟩))
    clear BA hMV hb5 E4 B4 hor hQl V7 hbr cM
    unfold memA memC at *
    dsimp only
    go_upto_region 19 with (fail)
    go_upto_region 17 with (first | (refine swLd swMb rfl rfl rfl M6.out rfl ?_) | (at_builtin; go_must (refine wpList_apEQ slMb rfl _ _ rfl bo (.slice s1 k c1) k Q rfl E7.out _ rfl 1 [q] _ L7.out (EL.single hel.out) rfl (by omega) hz7.out hok7.out ?_; intro s10 c10 w10 hc10 hm10 E10 T10 B10 G10; unfold maxLen at hm10; replace E10 := Lib.hid E10; replace T10 := Lib.hid T10; clear B10 G10)))
    have B11 := Lib.hid (BW.stP B7.out T10.out (fun g hg => by rw [hbo.out]; exact E7.out.ge' g (by simpa using hg)))
    clear T10 B7 E7 L7 M6 hel hok7 hz7
    try simp only [Act.put, List.setIfInBounds_toArray, List.set_cons_succ, List.set_cons_zero]
    go_wp2_with fail
    go_roundg (6 - (k + 1))
    case measure => omega
    case rel => exact ⟨k + 1, s10, c10, Q ++ [q], rfl, by omega, by first | rfl | (push_cast; rfl), rfl, hm10, hq, E10, B11⟩
   ·obtain rfl : k = 6 := by omega
    have d1 : decide (((6 : Nat) : Int) < 6) = false := by simp
    have hfo6 := hfo1.out.bw (B3.out.trans B4.out)
    have cD := Lib.hid (hs_do base gh S H T fkd fst frm ftr fow fly fnn hfo6.nn fsf fnf fcf fF wr (H3.out.bw B4.out) hfo6.sq hfo6.F (by have := h40f.out; omega) (fun q0 g hg hm => by
     have h1 := hfown1.out q0 g hg
     have h2 := (H3.out.ht g hm).1
     have h3 := hbase.out
     omega))
    have F6 := Lib.hid (F5.out.bw (B3.out.trans B4.out))
    clear hfo6 hQl
    go_wp2_with (refine swLd swFr rfl rfl rfl F6.out rfl ?_)
    refine Calls.mono cD.out ?_
    rintro e w5 ⟨H', T', cd, v, sc, nc, cc, rfl, hrel, hnc0, -, H5, hT⟩
    have B5 := Lib.hid (BW.stP (B3.out.trans B4.out) hT (fun g hg => Nat.le_trans hbase.out (H3.out.ht g hg).1))
    have E5 := Lib.hid (E4.out.old hT (fun g hg => by rw [← hbo.out]; exact (H3.out.ht g hg).2))
    replace hrel := Lib.hid hrel
    replace hnc0 := Lib.hid hnc0
    have BA : BW w5 (w5.alloc (.cells (repA fnn cd v) 36)) := (BW.refl w5).alloc
    have R6 := Lib.hid (HpB.new w5 (.cells (repA fnn cd v) 36))
    have H6 := Lib.hid (H5.bw BA)
    have E6 := Lib.hid (E5.out.bw BA)
    have B6 := Lib.hid (B5.out.trans BA)
    have F7 := Lib.hid (F5.out.bw B6.out)
    have hg5b := Lib.hid (Nat.lt_of_lt_of_le hg5w.out B5.out.size)
    clear BA cD F6 H5 E5 B5 hT E4 B4 H3 B3
    unfold repA at *
    dsimp only
    go_upto_region 21 with (fail)
    generalize w5.alloc _ = w6 at *
    generalize w5.heap.size = g14 at *
    have z0 := hp_cell (R6.out) 0
    have z1 := hp_cell (R6.out) 1
    have z2 := hp_cell (R6.out) 2
    simp only [List.getElem?_toArray, List.getElem?_cons_zero, List.getElem?_cons_succ] at z0 z1 z2
    have y0 := hp_cell (F7.out) 0
    have y1 := hp_cell (F7.out) 1
    have y2 := hp_cell (F7.out) 2
    have y3 := hp_cell (F7.out) 3
    have y4 := hp_cell (F7.out) 4
    have y5 := hp_cell (F7.out) 5
    have y6 := hp_cell (F7.out) 6
    have y7 := hp_cell (F7.out) 7
    simp only [List.getElem?_toArray, List.getElem?_cons_zero, List.getElem?_cons_succ] at y0 y1 y2 y3 y4 y5 y6 y7
    obtain ⟨gw, ow, cw, e, -, -, -, -, hpc⟩ := E6.out.form (by omega)
    cases e
    replace hpc := Lib.hid hpc
    have hQl := Lib.hid E6.out.1
    by_cases hcd : cd = 0
    ·subst hcd
     go_wp2_with fail
     go_ret
     exact ⟨rfl, BO.out.trans B6.out⟩
    have d3 : ((cd : Int) == 0) = false := by simp; omega
    have hno := (hrel.out.no hcd).2
    have hll := hrel.out.len
    obtain rfl : v = 0 := (hrel.out.no hcd).1
    obtain rfl : nc = 0 := hnc0.out hcd
    clear hrel hnc0
    have hcmp : Hid (∀ (k : Nat) (hk : k < Q.length) (q : Mem), (H'[k]? = some q ∨ (¬ (0 ≤ (k : Int) ∧ (k : Int) < (H'.length : Int)) ∧ q = memZ)) → { q with n := Q[k].n } = Q[k]) := Lib.hid (fun k hk q h => by
     rcases h with h | ⟨h1, rfl⟩
     ·obtain ⟨m, e1, e2⟩ := hno k q h
      rcases hQ.out k hk with e3 | ⟨e3, -⟩
      ·obtain rfl : m = Q[k] := Option.some.inj (e1.symm.trans e3)
       exact e2
      ·have := (List.getElem?_eq_some_iff.1 e1).1
       omega
     ·rcases hQ.out k hk with e3 | ⟨-, e3⟩
      ·have := (List.getElem?_eq_some_iff.1 e3).1
       omega
      ·rw [e3])
    clear hno hll hQ
    go_upto_region 26 with (fail)
    clear z0 z1 z2
    clear y0 y1 y2 y3 y4 y5 y6 y7
    go_loopg [15] 6 (fun m' ix wx => ∃ k : Nat, m' = 6 - k ∧ k ≤ 6 ∧ ix = .int .i64 (k : Nat) ∧ Hid (BW w6 wx))
    case atStart => exact ⟨0, by omega, by omega, rfl, BW.refl _⟩
    case round =>
     obtain ⟨k, rfl, hk, rfl, B7⟩ := hrel
     by_cases hk6 : k < 6
     ·have d1 : decide ((k : Int) < 6) = true := by simp; omega
      have cM := Lib.hid (hs_member base gh S H' T' (k : Nat) wr (H6.out.bw B7.out))
      go_wp2_with fail
      refine Calls.mono cM.out ?_
      rintro e w8 ⟨q, va, vb, vs, ok, rfl, hMV, hb8, hor⟩
      have hkQ : k < Q.length := by rw [hQl.out]; exact hk6
      have heq := hcmp.out k hkQ q (by
       rcases hor with ⟨-, s', e1, e2⟩ | ⟨-, e1, e2⟩
       ·obtain rfl : k = s' := by omega
        exact .inl e2
       ·exact .inr ⟨e1, e2⟩)
      have hq4 : q.subs.length ≤ 4 ∧ q.a.p.length ≤ 4 ∧ q.b.p.length ≤ 4 := by
       rcases hor with ⟨-, s', -, e2⟩ | ⟨-, -, rfl⟩
       ·exact ⟨(H6.out.ok s' q e2).n, (H6.out.ok2 q (List.mem_of_getElem? e2)).2⟩
       ·exact ⟨by decide, by decide, by decide⟩
      obtain ⟨c, ⟨va0, vb0, vs0, rfl, V0⟩, hcc⟩ := hpc.out k hkQ
      clear hor cM
      generalize Q[k] = m0 at *
      obtain ⟨r, ⟨ais, ac, ap⟩, ⟨bis, bc, bp⟩, subs, qn⟩ := q
      obtain ⟨r', ta', tb', subs', n0⟩ := m0
      simp only [Mem.mk.injEq] at heq
      obtain ⟨rfl, rfl, rfl, rfl, -⟩ := heq
      have R0 := Lib.hid (rangeAt_of (c := memA ⟨r, ⟨ais, ac, ap⟩, ⟨bis, bc, bp⟩, subs, n0⟩ va0 vb0 vs0) (n := 9) (fun j hj => by
       have h := hcc j hj
       rw [← Nat.add_assoc] at h
       exact h.trans (by unfold memA; rw [List.getElem?_toArray])) rfl)
      have B8 := Lib.hid (B7.out.trans hb8)
      obtain ⟨sa9, ca9, rfl, -, -⟩ := hMV.a.len
      obtain ⟨sb9, cb9, rfl, -, -⟩ := hMV.b.len
      obtain ⟨ss9, cs9, rfl, -, -⟩ := hMV.s.len
      obtain ⟨sa0, ca0, rfl, -, -⟩ := V0.a.len
      obtain ⟨sb0, cb0, rfl, -, -⟩ := V0.b.len
      obtain ⟨ss0, cs0, rfl, -, -⟩ := V0.s.len
      have cS := Lib.hid (fun (wz : World) (hb : BW w8 wz) => same_mem ⟨r, ⟨ais, ac, ap⟩, ⟨bis, bc, bp⟩, subs, n0⟩ _ _ _ _ _ _ _ _ hq4.1 hq4.2.1 hq4.2.2 wz (MV.bw ⟨hMV.a, hMV.b, hMV.s⟩ hb) (V0.bw (B8.out.trans hb)))
      have zn : w6.cell? ⟨gw, ow + k * 9 + 8, none⟩ = some (.int .u64 (n0 : Nat)) := by
       have h := hcc 8 (by decide)
       rw [← Nat.add_assoc] at h
       exact h
      have BA : BW w8 (w8.alloc (.cells (memA ⟨r, ⟨ais, ac, ap⟩, ⟨bis, bc, bp⟩, subs, qn⟩ (.slice sa9 ap.length ca9) (.slice sb9 bp.length cb9) (.slice ss9 subs.length cs9)) 45)) := (BW.refl w8).alloc
      have X9 := Lib.hid (HpB.new w8 (.cells (memA ⟨r, ⟨ais, ac, ap⟩, ⟨bis, bc, bp⟩, subs, qn⟩ (.slice sa9 ap.length ca9) (.slice sb9 bp.length cb9) (.slice ss9 subs.length cs9)) 45))
      replace zn := (B8.out.trans BA).cell zn
      replace BA := Lib.hid BA
      have R0 : Hid (w8.rangeAt gw (ow + k * 9) (memA ⟨r, ⟨ais, ac, ap⟩, ⟨bis, bc, bp⟩, subs, n0⟩ (.slice sa0 ap.length ca0) (.slice sb0 bp.length cb0) (.slice ss0 subs.length cs0)).toList) := Lib.hid (rangeAt_bw R0.out B8.out)
      clear hMV V0 hcc hq4 hb8 B7
      unfold memA memC at *
      dsimp only at cS X9 BA R0 zn
      generalize ap.length = na at *
      generalize bp.length = nb at *
      generalize subs.length = nsb at *
      dsimp only
      go_upto_region 29 with (fail)
      generalize w8.alloc _ = w9 at *
      generalize hg16 : w8.heap.size = g16 at *
      replace hg16 := Lib.hid hg16
      have x8 := (hp_cell X9.out 8).trans (show _ = some (.int .u64 (qn : Nat)) from rfl)
      have y8 := hp_frz X9.out 8
      have X10 : Hid (HpB (w9.setCell ⟨g16, 8, none⟩ (.int .u64 (n0 : Nat))) g16 (.cells #[.int .i64 r, .bool ais, .int .i64 ac, .slice sa9 na ca9, .bool bis, .int .i64 bc, .slice sb9 nb cb9, .slice ss9 nsb cs9, .int .u64 (n0 : Nat)] 45)) := Lib.hid (hp_set X9.out 8 (.int .u64 (n0 : Nat)))
      have B10 := Lib.hid (BA.out.set (g := g16) (o := 8) (v := .int .u64 (n0 : Nat)) (Nat.le_of_eq hg16.out))
      go_upto_region 30 with (fail)
      clear x8 y8 X9 zn BA
      generalize w9.setCell ⟨g16, 8, none⟩ (.int .u64 (n0 : Nat)) = w10 at *
      replace R0 := Lib.hid (rangeAt_bw R0.out B10.out)
      try simp only [Act.put, List.setIfInBounds_toArray, List.set_cons_succ, List.set_cons_zero]
      refine wp_region_gg [] [] [] (by kernel_rfl) ?_
      refine hoist [] [] (a1 := ?_) 0 rfl (by kernel_rfl) (.inl ⟨rfl, rfl⟩) rfl rfl rfl (fun x K hK => ?_) ?_
      rotate_left
      ·refine swQlC swMb rfl (by rfl) (c := #[.int .i64 r, .bool ais, .int .i64 ac, .slice sa9 na ca9, .bool bis, .int .i64 bc, .slice sb9 nb cb9, .slice ss9 nsb cs9, .int .u64 (n0 : Nat)]) rfl (fun w' hw => by subst hw; exact (X10.out.bw x.bw).range 0 _ rfl) (by simp only [Act.put, List.setIfInBounds_toArray, List.set_cons_succ, List.set_cons_zero]; rfl) ?_
       exact hK
      refine hoist [] [] (a1 := ?_) 1 rfl (by kernel_rfl) (.inl ⟨rfl, rfl⟩) rfl rfl rfl (fun x K hK => ?_) ?_
      rotate_left
      ·go_big_quiet_op
       exact hK
      refine hoist [] [] (a1 := ?_) 2 rfl (by kernel_rfl) (.inl ⟨rfl, rfl⟩) rfl rfl rfl (fun x K hK => ?_) ?_
      rotate_left
      ·go_big_quiet_op
       exact hK
      refine hoist [] [] (a1 := ?_) 3 rfl (by kernel_rfl) (.inl ⟨rfl, rfl⟩) rfl rfl rfl (fun x K hK => ?_) ?_
      rotate_left
      ·go_big_quiet_op
       exact hK
      refine hoist [] [] (a1 := ?_) 4 rfl (by kernel_rfl) (.inl ⟨rfl, rfl⟩) rfl rfl rfl (fun x K hK => ?_) ?_
      rotate_left
      ·refine swQlC swMb rfl (by rfl) (c := #[.int .i64 r, .bool ais, .int .i64 ac, .slice sa0 na ca0, .bool bis, .int .i64 bc, .slice sb0 nb cb0, .slice ss0 nsb cs0, .int .u64 (n0 : Nat)]) rfl (fun w' hw => by subst hw; exact rangeAt_bw R0.out x.bw) (by simp only [Act.put, List.setIfInBounds_toArray, List.set_cons_succ, List.set_cons_zero]; rfl) ?_
       exact hK
      refine hoist_call [] [] (a1 := ?_) 5 rfl (by kernel_rfl) (.inl ⟨rfl, rfl⟩) rfl rfl rfl (fun x K hK => ?_) ?_
      rotate_left
      ·go_big_quiet_op
       apply Exists.intro
       refine ⟨fun y => ?_, ?_⟩
       ·exact Calls.laterS_of (cS.out y.now (B10.out.trans (BW.ofStill (x.ok.trans y.ok))))
       ·exact hK
      refine hoist [] [] (a1 := ?_) 6 rfl (by kernel_rfl) (.inl ⟨rfl, rfl⟩) rfl rfl rfl (fun x K hK => ?_) ?_
      rotate_left
      ·go_big_quiet_op
       exact hK
      refine done (by kernel_rfl) (fun xr => ?_)
      have B11 := Lib.hid ((B8.out.trans B10.out).trans xr.bw)
      clear cS R0 X10 B10 B8
      generalize xr.now = w11 at *
      clear xr
      go_wp2_with fail
      go_roundg (6 - (k + 1))
      case measure => omega
      case rel => exact ⟨k + 1, rfl, by omega, by first | rfl | (push_cast; rfl), B11⟩
     ·obtain rfl : k = 6 := by omega
      have d1 : decide (((6 : Nat) : Int) < 6) = false := by simp
      have z0 := hp_cell (R6.out.bw B7.out) 0
      have z1 := hp_cell (R6.out.bw B7.out) 1
      have z2 := hp_cell (R6.out.bw B7.out) 2
      simp only [List.getElem?_toArray, List.getElem?_cons_zero, List.getElem?_cons_succ] at z0 z1 z2
      go_wp2_with fail
      go_ret
      exact ⟨rfl, BO.out.trans (B6.out.trans B7.out)⟩
end Go.Proofs.Ytebeifkgjhgmeaa
