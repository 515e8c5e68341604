/- The law SrtpBack. No condition. -/
import Derived.Test.YtikmhlbpefednaaSrN
import Derived.Test.YtikmhlbpefednaaSrO
import Derived.Test.YtikmhlbpefednaaRtR
namespace Go.Proofs.Ytikmhlbpefednaa
open Go.RowKit

theorem RtpO.ltb {w : World} {base : Nat} {c : Array Value} {d : RtpD} (h : RtpO w base c d) (k : Nat) (hk : RtpO.blk c k) : k < w.heap.size := by
  obtain ⟨ov, ev, pv, rfl, h1, h2, h3⟩ := h
  obtain ⟨v, hv, hk⟩ := hk
  simp only [rtpC, List.mem_toArray, List.mem_cons, List.not_mem_nil, or_false] at hv
  rcases hv with rfl | rfl | rfl | rfl | rfl | rfl | rfl | rfl | rfl | rfl | rfl <;> first
    | (cases hk; done)
    | exact h1.lt' k hk
    | exact h2.lt' k hk
    | exact h3.lt' k hk
set_option maxRecDepth 100000 in
set_option maxHeartbeats 8000000 in
theorem srgreat_ok (mk xb : Bool) (ty sq st so pf pd no co ne ce np cp : Nat) (so_ se sp : Option Addr) (w : World) :
    Calls Try.prog 9 #[.agg #[.bool mk, .int .u8 (ty : Nat), .int .u16 (sq : Nat), .int .u32 (st : Nat), .int .u32 (so : Nat), .slice so_ no co, .bool xb, .int .u16 (pf : Nat), .slice se ne ce, .slice sp np cp, .int .u8 (pd : Nat), .int .i64 0, .bool false, .int .u16 0, .int .u8 0, .slice none 0 0]] w fun e w' => e = .returned (.bool (decide (60 < no ∨ 1500 < ne ∨ 1500 < np))) ∧ BW w w' := by
  have BA : BW w (w.alloc (.cells #[.bool mk, .int .u8 (ty : Nat), .int .u16 (sq : Nat), .int .u32 (st : Nat), .int .u32 (so : Nat), .slice so_ no co, .bool xb, .int .u16 (pf : Nat), .slice se ne ce, .slice sp np cp, .int .u8 (pd : Nat), .int .i64 0, .bool false, .int .u16 0, .int .u8 0, .slice none 0 0] 41)) := (BW.refl w).alloc
  have X := HpB.new w (.cells #[.bool mk, .int .u8 (ty : Nat), .int .u16 (sq : Nat), .int .u32 (st : Nat), .int .u32 (so : Nat), .slice so_ no co, .bool xb, .int .u16 (pf : Nat), .slice se ne ce, .slice sp np cp, .int .u8 (pd : Nat), .int .i64 0, .bool false, .int .u16 0, .int .u8 0, .slice none 0 0] 41)
  have B := Lib.hid BA
  replace BA := Lib.hid BA
  replace X := Lib.hid X
  go_enter Try.func9, Try.ntmps9
  go_upto_region 1 with (fail)
  generalize (w.alloc _) = w1 at *
  clear BA
  have z5 := (hp_cell X.out 5).trans (show _ = some (.slice so_ no co) from rfl)
  have z8 := (hp_cell X.out 8).trans (show _ = some (.slice se ne ce) from rfl)
  have z9 := (hp_cell X.out 9).trans (show _ = some (.slice sp np cp) from rfl)
  have z15 := (hp_cell X.out 15).trans (show _ = some (.slice none 0 0) from rfl)
  clear X
  by_cases h1 : 60 < no
  · have d1 : decide ((60 : Int) < (no : Int)) = true := by simp; omega
    go_wp2_with fail
    go_ret
    exact ⟨by rw [decide_eq_true (Or.inl h1)]; rfl, B.out⟩
  have d1 : decide ((60 : Int) < (no : Int)) = false := by simp; omega
  by_cases h2 : 1500 < ne
  · have d2 : decide ((1500 : Int) < (ne : Int)) = true := by simp; omega
    go_wp2_with fail
    go_ret
    exact ⟨by rw [decide_eq_true (Or.inr (Or.inl h2))]; rfl, B.out⟩
  have d2 : decide ((1500 : Int) < (ne : Int)) = false := by simp; omega
  by_cases h3 : 1500 < np
  · have d3 : decide ((1500 : Int) < (np : Int)) = true := by simp; omega
    go_wp2_with fail
    go_ret
    exact ⟨by rw [decide_eq_true (Or.inr (Or.inr h3))]; rfl, B.out⟩
  have d3 : decide ((1500 : Int) < (np : Int)) = false := by simp; omega
  go_wp2_with fail
  go_ret
  exact ⟨by rw [decide_eq_false (by omega)]; rfl, B.out⟩

/-- What came in as a master. -/
theorem master_of_Rd {w : World} {cs : Array Value} (h : Rd w (.scope (.seq (.block 16 (.label 4)) (.seq (.block 14 (.label 4)) .skip))) cs.toList) : ∃ key salt : List Nat, cs = ivA .u8 (key ++ salt) ∧ key.length = 16 ∧ ByL key ∧ salt.length = 14 ∧ ByL salt := by
  obtain ⟨c1, c2, e, h1, c3, c4, e2, h3, h4⟩ := h
  have h4 : c4 = [] := h4
  subst h4 e2
  obtain ⟨k1, e1, l1, b1⟩ := bytes_of_cells w 16 c1 h1.1 h1.2
  obtain ⟨k2, e2, l2, b2⟩ := bytes_of_cells w 14 c3 h3.1 h3.2
  refine ⟨k1, k2, ?_, l1, byl_of b1, l2, byl_of b2⟩
  apply Array.ext'
  rw [e, e1, e2]
  simp [ivA]
set_option maxRecDepth 100000 in
set_option maxHeartbeats 8000000 in
theorem back_walk (key salt : List Nat) (hk : key.length = 16) (hkb : ByL key) (hs : salt.length = 14) (hsb : ByL salt) (c : Array Value) (d : RtpD) (at_ fl : Nat) (hat : at_ < 65536) (hfl : fl < 256) (w : World) (hV : RtpV w c d) (wf : RtpWf d) :
    Calls Try.prog 4 #[.agg (ivA .u8 (key ++ salt)), .agg c, .int .u16 (at_ : Nat), .int .u8 (fl : Nat)] w fun e w' => e = .returned (.bool true) ∧ BW w w' := by
  have cN := fun wz => Lib.hid (way_new key salt 9 hk hkb hs hsb wz)
  have cR := fun wz => Lib.hid (rwnew_ok key salt 1 hk hkb hs hsb wz)
  have cT := fun sb n cb b hn wz hv => Lib.hid (rwtag_ok (keysN key salt 0) (keysN_len key salt 0) (keysN_byl key salt 0 hkb) sb n cb b hn wz hv)
  have hKK := Lib.hid (keysN_len key salt 0)
  have hKl : Hid ((key ++ salt).length = 30) := by simp [Hid, hk, hs]
  generalize keysN key salt 0 = KK at *
  generalize key ++ salt = K at *
  clear hk hkb hs hsb
  have cA := fun wz => Lib.hid (srtp_alive wz)
  obtain ⟨so_, co, se, ce, sp, cp, rfl, -, -, -⟩ := hV.open
  have M0 : AvB (w.alloc (.cells (ivA .u8 K) 35)) w.heap.size 35 K := AvB.new _ _ _
  have B0 : BW w (w.alloc (.cells (ivA .u8 K) 35)) := (BW.refl w).alloc
  have hs0 : (w.alloc (.cells (ivA .u8 K) 35)).heap.size = w.heap.size + 1 := by simp
  simp only [rtpC] at hV ⊢
  generalize hno : d.others.length = no at *
  generalize hne : d.extra.length = ne at *
  generalize hnp : d.payload.length = np at *
  generalize hdm : d.marker = mk at *
  generalize hdt : d.typ = ty at *
  generalize hds : d.seq = sq at *
  generalize hdst : d.stamp = st at *
  generalize hdso : d.source = so at *
  generalize hdx : d.ext = xb at *
  generalize hdp : d.profile = pf at *
  generalize hdpd : d.pad = pd at *
  have B1' : BW (w.alloc (.cells (ivA .u8 K) 35)) ((w.alloc (.cells (ivA .u8 K) 35)).alloc (.cells #[.bool mk, .int .u8 (ty : Nat), .int .u16 (sq : Nat), .int .u32 (st : Nat), .int .u32 (so : Nat), .slice so_ no co, .bool xb, .int .u16 (pf : Nat), .slice se ne ce, .slice sp np cp, .int .u8 (pd : Nat)] 38)) := (BW.refl _).alloc
  have P := HpB.new (w.alloc (.cells (ivA .u8 K) 35)) (.cells #[.bool mk, .int .u8 (ty : Nat), .int .u16 (sq : Nat), .int .u32 (st : Nat), .int .u32 (so : Nat), .slice so_ no co, .bool xb, .int .u16 (pf : Nat), .slice se ne ce, .slice sp np cp, .int .u8 (pd : Nat)] 38)
  rw [hs0] at P
  have hVw := Lib.hid (show RtpV w #[.bool mk, .int .u8 (ty : Nat), .int .u16 (sq : Nat), .int .u32 (st : Nat), .int .u32 (so : Nat), .slice so_ no co, .bool xb, .int .u16 (pf : Nat), .slice se ne ce, .slice sp np cp, .int .u8 (pd : Nat)] d from hV)
  replace M0 := Lib.hid (M0.bw B1')
  have B := Lib.hid (B0.trans B1')
  clear hV B0
  replace P := Lib.hid P
  replace hno := Lib.hid hno
  replace hne := Lib.hid hne
  replace hnp := Lib.hid hnp
  replace hdm := Lib.hid hdm
  replace hdt := Lib.hid hdt
  replace hds := Lib.hid hds
  replace hdst := Lib.hid hdst
  replace hdso := Lib.hid hdso
  replace hdx := Lib.hid hdx
  replace hdp := Lib.hid hdp
  replace hdpd := Lib.hid hdpd
  replace B1' := Lib.hid B1'
  replace hs0 := Lib.hid hs0
  go_enter Try.func4, Try.ntmps4
  go_upto_region 1 with (fail)
  clear B1' hs0
  generalize ((w.alloc _).alloc _) = w1 at *
  generalize hgm : w.heap.size = g0 at *
  generalize hgp : g0 + 1 = gp at *
  replace hgm := Lib.hid hgm
  replace hgp := Lib.hid hgp
  go_wp2_with fail
  refine Calls.mono (cA w1).out ?_
  rintro e w2 ⟨rfl, hb⟩
  replace P := Lib.hid (P.out.bw hb)
  replace M0 := Lib.hid (M0.out.bw hb)
  replace B := Lib.hid (B.out.trans hb)
  clear hb cA
  dsimp only
  have z0 := hp_cell (P.out) 0
  have z1 := hp_cell (P.out) 1
  have z2 := hp_cell (P.out) 2
  have z3 := hp_cell (P.out) 3
  have z4 := hp_cell (P.out) 4
  have z5 := hp_cell (P.out) 5
  have z6 := hp_cell (P.out) 6
  have z7 := hp_cell (P.out) 7
  have z8 := hp_cell (P.out) 8
  have z9 := hp_cell (P.out) 9
  have z10 := hp_cell (P.out) 10
  simp only [List.getElem?_toArray, List.getElem?_cons_zero, List.getElem?_cons_succ] at z0 z1 z2 z3 z4 z5 z6 z7 z8 z9 z10
  go_upto_region 3 with (fail)
  go_wp2_with fail
  refine Calls.mono (srgreat_ok mk xb ty sq st so pf pd no co ne ce np cp so_ se sp w2) ?_
  rintro e w3 ⟨rfl, hb⟩
  clear z0 z1 z2 z3 z4 z5 z6 z7 z8 z9 z10
  replace P := Lib.hid (P.out.bw hb)
  replace M0 := Lib.hid (M0.out.bw hb)
  replace B := Lib.hid (B.out.trans hb)
  clear hb
  dsimp only
  by_cases hg : 60 < no ∨ 1500 < ne ∨ 1500 < np
  · rw [decide_eq_true hg]
    go_wp2_with fail
    go_ret
    exact ⟨rfl, B.out⟩
  rw [decide_eq_false hg]
  have hsm : Hid (no ≤ 60 ∧ ne ≤ 1500 ∧ np ≤ 1500) := by show _ ∧ _; omega
  clear hg
  go_upto_region 5 with (fail)
  refine wp_region_gg [] [] [] (by kernel_rfl) ?_
  refine hoist [] [] (a1 := ?_) 0 rfl (by kernel_rfl) (.inl ⟨rfl, rfl⟩) rfl rfl rfl (fun x K hK => ?_) ?_
  rotate_left
  · refine qlA ar30 rfl (by rfl) hKl.out (fun w' hw => by subst hw; exact M0.out.bw x.bw) (by simp only [Act.put, List.setIfInBounds_toArray, List.set_cons_succ, List.set_cons_zero]; rfl) ?_
    exact hK
  refine hoist [] [] (a1 := ?_) 2 rfl (by kernel_rfl) (.inl ⟨rfl, rfl⟩) rfl rfl rfl (fun x K hK => ?_) ?_
  rotate_left
  · refine qlA ar30 rfl (by rfl) hKl.out (fun w' hw => by subst hw; exact M0.out.bw x.bw) (by simp only [Act.put, List.setIfInBounds_toArray, List.set_cons_succ, List.set_cons_zero]; rfl) ?_
    exact hK
  refine hoist [] [] (a1 := ?_) 4 rfl (by kernel_rfl) (.inl ⟨rfl, rfl⟩) rfl rfl rfl (fun x K hK => ?_) ?_
  rotate_left
  · refine qlA ar30 rfl (by rfl) hKl.out (fun w' hw => by subst hw; exact M0.out.bw x.bw) (by simp only [Act.put, List.setIfInBounds_toArray, List.set_cons_succ, List.set_cons_zero]; rfl) ?_
    exact hK
  refine effect 1 rfl (by kernel_rfl) (by kernel_rfl) rfl (fun x1 K hK => ?_)
  go_simp
  refine Calls.mono (cN x1.now).out ?_
  rintro e w4 ⟨ga, ma, rfl, hga, hma, Wa, hb⟩
  refine hK _ _ (hb.still []) ?_
  clear hK K
  have Ba := Lib.hid (x1.bw.trans hb)
  have hga1 := Lib.hid (Nat.le_trans x1.bw.size hga)
  have hma1 := Lib.hid (Nat.le_trans x1.bw.size hma)
  replace Wa := Lib.hid Wa
  clear hb hga hma
  try simp only [Act.put, List.setIfInBounds_toArray, List.set_cons_succ, List.set_cons_zero]
  refine effect 3 rfl (by kernel_rfl) (by kernel_rfl) rfl (fun x3 K hK => ?_)
  go_simp
  refine Calls.mono (cN x3.now).out ?_
  rintro e w5 ⟨gb, mb, rfl, hgb, hmb, Wb, hb⟩
  refine hK _ _ (hb.still []) ?_
  clear hK K
  have hab : Hid (ga < gb ∧ ga < mb ∧ ma < gb ∧ ma < mb) := by
    have := (Wa.out.bw x3.bw).hp.lt
    have := (Wa.out.bw x3.bw).mp.lt
    show _ ∧ _
    omega
  replace Wa := Lib.hid (Wa.out.bw (x3.bw.trans hb))
  replace Ba := Lib.hid (Ba.out.trans (x3.bw.trans hb))
  replace Wb := Lib.hid Wb
  clear hb hgb hmb
  try simp only [Act.put, List.setIfInBounds_toArray, List.set_cons_succ, List.set_cons_zero]
  refine effect 5 rfl (by kernel_rfl) (by kernel_rfl) rfl (fun x5 K hK => ?_)
  go_simp
  refine Calls.mono (cN x5.now).out ?_
  rintro e w6 ⟨gc, mc, rfl, hgc, hmc, Wc, hb⟩
  refine hK _ _ (hb.still []) ?_
  clear hK K
  have hbc : Hid (gb < gc ∧ gb < mc ∧ mb < gc ∧ mb < mc) := by
    have := (Wb.out.bw x5.bw).hp.lt
    have := (Wb.out.bw x5.bw).mp.lt
    show _ ∧ _
    omega
  replace Wa := Lib.hid (Wa.out.bw (x5.bw.trans hb))
  replace Wb := Lib.hid (Wb.out.bw (x5.bw.trans hb))
  replace Ba := Lib.hid (Ba.out.trans (x5.bw.trans hb))
  replace Wc := Lib.hid Wc
  clear hb hgc hmc cN
  try simp only [Act.put, List.setIfInBounds_toArray, List.set_cons_succ, List.set_cons_zero]
  refine hoist [] [] (a1 := ?_) 6 rfl (by kernel_rfl) (.inl ⟨rfl, rfl⟩) rfl rfl rfl (fun x K hK => ?_) ?_
  rotate_left
  · go_big_quiet_op
    exact hK
  refine hoist [] [] (a1 := ?_) 7 rfl (by kernel_rfl) (.inl ⟨rfl, rfl⟩) rfl rfl rfl (fun x K hK => ?_) ?_
  rotate_left
  · go_big_quiet_op
    exact hK
  refine hoist [] [] (a1 := ?_) 8 rfl (by kernel_rfl) (.inl ⟨rfl, rfl⟩) rfl rfl rfl (fun x K hK => ?_) ?_
  rotate_left
  · go_big_quiet_op
    exact hK
  refine done (by kernel_rfl) (fun xr => ?_)
  have hgl : Hid (g0 < ga ∧ gp < ga ∧ g0 < ma ∧ gp < ma) := by
    have := P.out.lt
    have := M0.out.lt
    have := hga1.out
    have := hma1.out
    show _ ∧ _
    omega
  have hwg : Hid (g0 = w.heap.size) := hgm.out.symm
  replace Wa := Lib.hid (Wa.out.bw xr.bw)
  replace Wb := Lib.hid (Wb.out.bw xr.bw)
  replace Wc := Lib.hid (Wc.out.bw xr.bw)
  replace Ba := Lib.hid (Ba.out.trans xr.bw)
  replace P := Lib.hid (P.out.bw Ba.out)
  replace M0 := Lib.hid (M0.out.bw Ba.out)
  replace B := Lib.hid (B.out.trans Ba.out)
  have hcl : Hid (gc < xr.now.heap.size ∧ mc < xr.now.heap.size) := ⟨Wc.out.hp.lt, Wc.out.mp.lt⟩
  clear Ba hga1 hma1
  generalize xr.now = w7 at *
  have z0 := hp_cell (P.out) 0
  have z1 := hp_cell (P.out) 1
  have z2 := hp_cell (P.out) 2
  have z3 := hp_cell (P.out) 3
  have z4 := hp_cell (P.out) 4
  have z5 := hp_cell (P.out) 5
  have z6 := hp_cell (P.out) 6
  have z7 := hp_cell (P.out) 7
  have z8 := hp_cell (P.out) 8
  have z9 := hp_cell (P.out) 9
  have z10 := hp_cell (P.out) 10
  simp only [List.getElem?_toArray, List.getElem?_cons_zero, List.getElem?_cons_succ] at z0 z1 z2 z3 z4 z5 z6 z7 z8 z9 z10
  have hsq : (sq : Int) ≤ 65535 := by have := wf.seq; have := hds.out; omega
  have cS := Lib.hid (seal_ok ga KK 9 0 ma [] _ d (sq : Int) (by omega) (by decide) w7 Wa.out (hVw.out.bw B.out) wf (by have := hnp.out; have := hsm.out; omega))
  replace wf := Lib.hid wf
  go_upto_region 6 with (fail)
  go_wp2_with fail
  refine Calls.mono cS.out ?_
  rintro e w8 hp
  clear z0 z1 z2 z3 z4 z5 z6 z7 z8 z9 z10
  clear cS
  rcases hp with ⟨hbad, -, -⟩ | ⟨-, -, rfl, hb⟩ | ⟨-, hok, s, cX, rfl, O, Wa8, T8⟩
  · omega
  · replace B := Lib.hid (B.out.trans hb)
    clear hb
    dsimp only
    go_wp2_with fail
    go_ret
    exact ⟨rfl, B.out⟩
  rw [Int.toNat_natCast] at O ⊢
  obtain ⟨hmay, hlen, -⟩ := hok
  have hLX := sealB_len KK d sq hmay
  have h12 : 12 ≤ (bytesN d).length := by unfold bytesN; rw [List.length_append, headN_len]; omega
  have hfst := open_first KK d wf.out hmay hlen
  have hagn := open_again KK d wf.out hmay hlen
  rw [hds.out] at hfst hagn
  have hLb : Hid (22 ≤ (sealB KK d sq).length ∧ (sealB KK d sq).length ≤ 1200) := by show _ ∧ _; omega
  clear hLX hmay hlen h12
  have hLL : Hid ((sealB KK d sq).length = (sealB KK d sq).length) := rfl
  generalize sealB KK d sq = X at *
  generalize hL : X.length = L at O hLb ⊢
  clear hLL
  replace B := Lib.hid (B.out.stP T8 (fun k hk => by obtain rfl : k = ga := (by simpa using hk); have := hgl.out; have := hwg.out; omega))
  replace P := Lib.hid (P.out.st T8 (by have := hgl.out; simp; omega))
  replace M0 := Lib.hid (M0.out.still T8 (by have := hgl.out; simp; omega))
  replace Wb := Lib.hid (Wb.out.still T8 (by have := hab.out; simp; omega) (by have := hab.out; simp; omega))
  replace Wc := Lib.hid (Wc.out.still T8 (by have := hab.out; have := hbc.out; simp; omega) (by have := hab.out; have := hbc.out; simp; omega))
  have hown : Hid (∀ k, (Value.slice s L cX).ownBlock = some k → gc < k ∧ mc < k) := fun k hk => by have := O.ge' k hk; have := hcl.out; omega
  have hz8 : Hid (gc < w8.heap.size ∧ mc < w8.heap.size) := by have := hcl.out; have := T8.size; show _ ∧ _; omega
  replace O := Lib.hid O
  clear Wa Wa8 T8
  have cO1 := Lib.hid (open_ok gb KK 9 0 mb [] s L cX X MOk.nil (by have := hLb.out; omega) (by decide) w8 Wb.out O.out.sb (fun k hk => by have := hown.out k hk; have := hbc.out; omega))
  rw [hfst] at cO1
  dsimp only
  go_upto_region 9 with (fail)
  go_wp2_with fail
  refine Calls.mono cO1.out ?_
  rintro e w9 hp
  obtain ⟨so2, co2, se2, ce2, sp2, cp2, rfl, Oq, Wb9, T9⟩ := hp.form
  simp only [rtpC, hno.out, hne.out, hnp.out, hdm.out, hdt.out, hds.out, hdst.out, hdso.out, hdx.out, hdp.out, hdpd.out] at Oq ⊢
  clear hp cO1 hfst
  replace B := Lib.hid (B.out.stP T9 (fun k hk => by have := hgl.out; have := hab.out; have := hwg.out; simp at hk; rcases hk with rfl | rfl <;> omega))
  replace P := Lib.hid (P.out.st T9 (by have := hgl.out; have := hab.out; simp; omega))
  replace M0 := Lib.hid (M0.out.still T9 (by have := hgl.out; have := hab.out; simp; omega))
  replace Wc := Lib.hid (Wc.out.still T9 (by have := hbc.out; simp; omega) (by have := hbc.out; simp; omega))
  replace O := Lib.hid (O.out.still T9 (fun k hk hm => by have := hown.out k hk; have := hbc.out; simp at hm; omega))
  have hz9 : Hid (gc < w9.heap.size ∧ mc < w9.heap.size) := by have := hz8.out; have := T9.size; show _ ∧ _; omega
  clear T9 Wb
  have hown2 : Hid (∀ k, (Value.slice s L cX).ownBlock = some k → k ≠ w9.heap.size) := fun k hk => by have := O.out.lt' k hk; omega
  have hOq : Hid (∀ k, RtpO.blk #[.bool mk, .int .u8 (ty : Nat), .int .u16 (sq : Nat), .int .u32 (st : Nat), .int .u32 (so : Nat), .slice so2 no co2, .bool xb, .int .u16 (pf : Nat), .slice se2 ne ce2, .slice sp2 np cp2, .int .u8 (pd : Nat)] k → k ≠ w9.heap.size) := fun k hk => by have := Oq.ltb k hk; omega
  have BA : BW w9 (w9.alloc (.cells #[.bool mk, .int .u8 (ty : Nat), .int .u16 (sq : Nat), .int .u32 (st : Nat), .int .u32 (so : Nat), .slice so2 no co2, .bool xb, .int .u16 (pf : Nat), .slice se2 ne ce2, .slice sp2 np cp2, .int .u8 (pd : Nat)] 38)) := (BW.refl _).alloc
  have Q := Lib.hid (HpB.new w9 (.cells #[.bool mk, .int .u8 (ty : Nat), .int .u16 (sq : Nat), .int .u32 (st : Nat), .int .u32 (so : Nat), .slice so2 no co2, .bool xb, .int .u16 (pf : Nat), .slice se2 ne ce2, .slice sp2 np cp2, .int .u8 (pd : Nat)] 38))
  replace Oq := Lib.hid (Oq.bw BA)
  replace P := Lib.hid (P.out.bw BA)
  replace M0 := Lib.hid (M0.out.bw BA)
  replace Wb9 := Lib.hid (Wb9.bw BA)
  replace Wc := Lib.hid (Wc.out.bw BA)
  replace O := Lib.hid (O.out.bw BA)
  replace B := Lib.hid (B.out.trans BA)
  have hxx : Hid (w9.heap.size < (w9.alloc (.cells #[.bool mk, .int .u8 (ty : Nat), .int .u16 (sq : Nat), .int .u32 (st : Nat), .int .u32 (so : Nat), .slice so2 no co2, .bool xb, .int .u16 (pf : Nat), .slice se2 ne ce2, .slice sp2 np cp2, .int .u8 (pd : Nat)] 38)).heap.size) := Q.out.lt
  clear BA
  try dsimp only
  go_upto_region 10 with (fail)
  generalize (w9.alloc _) = w10 at *
  generalize w9.heap.size = gq at *
  have hM1 : MOk [(d.source, sq + 1, 1)] := ⟨by simp, by have := wf.out.source; have := hds.out; have := wf.out.seq; simp; omega⟩
  have cO2 := Lib.hid (open_ok gb KK 9 1 mb [(d.source, sq + 1, 1)] s L cX X hM1 (by have := hLb.out; omega) (by decide) w10 Wb9.out O.out.sb (fun k hk => by have := hown.out k hk; have := hbc.out; omega))
  rw [hagn] at cO2
  clear hM1 hagn
  go_wp2_with fail
  refine Calls.mono cO2.out ?_
  rintro e w11 hp
  obtain ⟨so3, co3, se3, ce3, sp3, cp3, rfl, -, -, T11⟩ := hp.form
  clear hp cO2
  simp only [rtpC, rZero, List.length_nil]
  replace B := Lib.hid (B.out.stP T11 (fun k hk => by have := hgl.out; have := hab.out; have := hwg.out; simp at hk; rcases hk with rfl | rfl <;> omega))
  replace P := Lib.hid (P.out.st T11 (by have := hgl.out; have := hab.out; simp; omega))
  replace M0 := Lib.hid (M0.out.still T11 (by have := hgl.out; have := hab.out; simp; omega))
  replace Q := Lib.hid (Q.out.st T11 (by have := hbc.out; have := hz9.out; simp; omega))
  replace Wc := Lib.hid (Wc.out.still T11 (by have := hbc.out; simp; omega) (by have := hbc.out; simp; omega))
  replace O := Lib.hid (O.out.still T11 (fun k hk hm => by have := hown.out k hk; have := hbc.out; simp at hm; omega))
  replace Oq := Lib.hid (Oq.out.still T11 (fun k hk => by have := hz8.out; have := hbc.out; simp at hk; omega))
  clear T11 Wb9
  have BA : BW w11 (w11.alloc (.cells #[.bool false, .int .u8 0, .int .u16 0, .int .u32 0, .int .u32 0, .slice so3 0 co3, .bool false, .int .u16 0, .slice se3 0 ce3, .slice sp3 0 cp3, .int .u8 0] 38)) := (BW.refl _).alloc
  replace Oq := Lib.hid (Oq.out.bw BA)
  replace P := Lib.hid (P.out.bw BA)
  replace Q := Lib.hid (Q.out.bw BA)
  replace M0 := Lib.hid (M0.out.bw BA)
  replace Wc := Lib.hid (Wc.out.bw BA)
  replace O := Lib.hid (O.out.bw BA)
  replace B := Lib.hid (B.out.trans BA)
  clear BA
  go_upto_region 11 with (fail)
  generalize (w11.alloc _) = w12 at *
  generalize w11.heap.size = gz at *
  have z10 := (hp_cell P.out 10).trans (show _ = some (.int .u8 (pd : Nat)) from rfl)
  have y10 := (hp_cell Q.out 10).trans (show _ = some (.int .u8 (pd : Nat)) from rfl)
  have f10 := hp_frz Q.out 10
  have T := still_sc w12 gq 10 (.int .u8 (pd : Nat))
  have Q13 : HpB (w12.setCell ⟨gq, 10, none⟩ (.int .u8 (pd : Nat))) gq (.cells #[.bool mk, .int .u8 (ty : Nat), .int .u16 (sq : Nat), .int .u32 (st : Nat), .int .u32 (so : Nat), .slice so2 no co2, .bool xb, .int .u16 (pf : Nat), .slice se2 ne ce2, .slice sp2 np cp2, .int .u8 (pd : Nat)] 38) := hp_set Q.out 10 (.int .u8 (pd : Nat))
  have hqne := hz9
  have hgg : Hid (gp < gq ∧ g0 < gq) := by have := hz9.out; have := hgl.out; have := hab.out; have := hbc.out; show _ ∧ _; omega
  replace Oq := Lib.hid (Oq.out.still' T (fun k hk hm => hOq.out k hm (by simpa using hk)))
  replace P := Lib.hid (P.out.st T (by have := hgg.out; simp; omega))
  replace M0 := Lib.hid (M0.out.still T (by have := hgg.out; simp; omega))
  replace Wc := Lib.hid (Wc.out.still T (by have := hz9.out; simp; omega) (by have := hz9.out; simp; omega))
  replace O := Lib.hid (O.out.still T (fun k hk hm => hown2.out k hk (by simpa using hm)))
  replace B := Lib.hid (B.out.stP T (fun k hk => by obtain rfl : k = gq := (by simpa using hk); have := hgg.out; have := hwg.out; omega))
  replace Q := Lib.hid Q13
  clear T Q13
  go_upto_region 12 with (fail)
  clear z10 y10 f10
  generalize (w12.setCell _ _) = w13 at *
  have z0 := hp_cell (P.out) 0
  have z1 := hp_cell (P.out) 1
  have z2 := hp_cell (P.out) 2
  have z3 := hp_cell (P.out) 3
  have z4 := hp_cell (P.out) 4
  have z5 := hp_cell (P.out) 5
  have z6 := hp_cell (P.out) 6
  have z7 := hp_cell (P.out) 7
  have z8 := hp_cell (P.out) 8
  have z9 := hp_cell (P.out) 9
  have z10 := hp_cell (P.out) 10
  simp only [List.getElem?_toArray, List.getElem?_cons_zero, List.getElem?_cons_succ] at z0 z1 z2 z3 z4 z5 z6 z7 z8 z9 z10
  have y0 := hp_cell (Q.out) 0
  have y1 := hp_cell (Q.out) 1
  have y2 := hp_cell (Q.out) 2
  have y3 := hp_cell (Q.out) 3
  have y4 := hp_cell (Q.out) 4
  have y5 := hp_cell (Q.out) 5
  have y6 := hp_cell (Q.out) 6
  have y7 := hp_cell (Q.out) 7
  have y8 := hp_cell (Q.out) 8
  have y9 := hp_cell (Q.out) 9
  have y10 := hp_cell (Q.out) 10
  simp only [List.getElem?_toArray, List.getElem?_cons_zero, List.getElem?_cons_succ] at y0 y1 y2 y3 y4 y5 y6 y7 y8 y9 y10
  go_wp2_with fail
  refine Calls.mono (same_true _ _ d w13 (hVw.out.bw B.out) Oq.out.v) ?_
  rintro e w14 ⟨rfl, hb⟩
  clear z0 z1 z2 z3 z4 z5 z6 z7 z8 z9 z10 y0 y1 y2 y3 y4 y5 y6 y7 y8 y9 y10
  replace P := Lib.hid (P.out.bw hb)
  replace M0 := Lib.hid (M0.out.bw hb)
  replace Wc := Lib.hid (Wc.out.bw hb)
  replace O := Lib.hid (O.out.bw hb)
  replace B := Lib.hid (B.out.trans hb)
  clear hb Q Oq hOq
  dsimp only
  by_cases hf0 : fl = 0
  · subst hf0
    go_wp2_with fail
    go_ret
    exact ⟨rfl, B.out⟩
  have d1 : ((fl : Int) == 0) = false := by simp; omega
  clear hf0
  go_upto_region 16 with (fail)
  clear d1
  have hL22 := hLb.out
  obtain ⟨q, o, cap', he, hgb, hgl', hc1, hc2, hcell, hfz⟩ := O.out.form (by omega)
  cases he
  unfold maxLen at hc2
  have hqo := hown.out q rfl
  have hjn := Nat.mod_lt at_ (show L > 0 by omega)
  obtain ⟨j, ej, hj⟩ : ∃ j : Nat, (at_ : Int) % (L : Int) = (j : Int) ∧ j < L := ⟨at_ % L, by simp, hjn⟩
  have hcj := hcell j hj
  have hy := O.out.2.1.get j
  generalize X.getD j 0 = y at *
  have e1 : bits .xor .u8 (y : Int) (fl : Int) = ((y ^^^ fl : Nat) : Int) := u8_xor_nat y fl hy hfl
  have hy1 : y ^^^ fl < 256 := Nat.xor_lt_two_pow (n := 8) hy hfl
  generalize y ^^^ fl = y1 at *
  have l1 : ∀ x : LaterS [] w14, x.now.cell? ⟨q, o + j, none⟩ = some (.int .u8 (y : Nat)) := fun x => x.cell hcj (by simp)
  have l2 : ∀ x : LaterS [] w14, x.now.frozen? ⟨q, o + j, none⟩ = false := fun x => by
    obtain ⟨g', o', cap', he, _, _, _, _, _, hf⟩ := (O.out.bw x.bw).form (by omega)
    cases he
    exact hf _
  have j1 : (0 : Int) ≤ (j : Int) := by omega
  have j2 : (j : Int) < (L : Int) := by omega
  have n0 : (0 : Int) < (L : Int) := by omega
  clear hcell hfz hcj hjn P
  try simp only [Act.put, List.setIfInBounds_toArray, List.set_cons_succ, List.set_cons_zero]
  refine wp_region_gg [] [] [16] (by kernel_rfl) ?_
  refine hoist [] [] (a1 := ?_) 0 rfl (by kernel_rfl) (.inl ⟨rfl, rfl⟩) rfl rfl rfl (fun x K hK => ?_) ?_
  rotate_left
  · go_big_quiet_op
    exact hK
  refine hoist [] [] (a1 := ?_) 1 rfl (by kernel_rfl) (.inl ⟨rfl, rfl⟩) rfl rfl rfl (fun x K hK => ?_) ?_
  rotate_left
  · go_big_quiet_op
    exact hK
  refine hoist [] [] (a1 := ?_) 2 rfl (by kernel_rfl) (.inl ⟨rfl, rfl⟩) rfl rfl rfl (fun x K hK => ?_) ?_
  rotate_left
  · go_big_quiet_op
    exact hK
  refine hoist [] [] (a1 := ?_) 3 rfl (by kernel_rfl) (.inl ⟨rfl, rfl⟩) rfl rfl rfl (fun x K hK => ?_) ?_
  rotate_left
  · go_big_quiet_op
    exact hK
  refine hoist [] [] (a1 := ?_) 4 rfl (by kernel_rfl) (.inl ⟨rfl, rfl⟩) rfl rfl rfl (fun x K hK => ?_) ?_
  rotate_left
  · go_big_quiet_op
    exact hK
  refine hoist [] [] (a1 := ?_) 5 rfl (by kernel_rfl) (.inl ⟨rfl, rfl⟩) rfl rfl rfl (fun x K hK => ?_) ?_
  rotate_left
  · go_big_quiet_op
    exact hK
  refine hoist [] [] (a1 := ?_) 6 rfl (by kernel_rfl) (.inl ⟨rfl, rfl⟩) rfl rfl rfl (fun x K hK => ?_) ?_
  rotate_left
  · go_big_quiet_op
    exact hK
  refine hoist [] [] (a1 := ?_) 7 rfl (by kernel_rfl) (.inl ⟨rfl, rfl⟩) rfl rfl rfl (fun x K hK => ?_) ?_
  rotate_left
  · go_big_quiet_op
    exact hK
  refine hoist [] [] (a1 := ?_) 8 rfl (by kernel_rfl) (.inl ⟨rfl, rfl⟩) rfl rfl rfl (fun x K hK => ?_) ?_
  rotate_left
  · go_big_quiet_op
    exact hK
  refine hoist [] [] (a1 := ?_) 9 rfl (by kernel_rfl) (.inl ⟨rfl, rfl⟩) rfl rfl rfl (fun x K hK => ?_) ?_
  rotate_left
  · go_big_quiet_op
    exact hK
  refine hoist [] [] (a1 := ?_) 10 rfl (by kernel_rfl) (.inl ⟨rfl, rfl⟩) rfl rfl rfl (fun x K hK => ?_) ?_
  rotate_left
  · go_big_quiet_op
    exact hK
  refine hoist [] [] (a1 := ?_) 11 rfl (by kernel_rfl) (.inl ⟨rfl, rfl⟩) rfl rfl rfl (fun x K hK => ?_) ?_
  rotate_left
  · go_big_quiet_op
    exact hK
  refine hoist [] [] (a1 := ?_) 12 rfl (by kernel_rfl) (.inl ⟨rfl, rfl⟩) rfl rfl rfl (fun x K hK => ?_) ?_
  rotate_left
  · go_big_quiet_op
    exact hK
  refine hoist [] [] (a1 := ?_) 13 rfl (by kernel_rfl) (.inl ⟨rfl, rfl⟩) rfl rfl rfl (fun x K hK => ?_) ?_
  rotate_left
  · go_big_quiet_op
    exact hK
  refine hoist [] [] (a1 := ?_) 14 rfl (by kernel_rfl) (.inl ⟨rfl, rfl⟩) rfl rfl rfl (fun x K hK => ?_) ?_
  rotate_left
  · go_big_quiet_op
    exact hK
  refine hoist [] [] (a1 := ?_) 15 rfl (by kernel_rfl) (.inl ⟨rfl, rfl⟩) rfl rfl rfl (fun x K hK => ?_) ?_
  rotate_left
  · go_big_quiet_op
    exact hK
  refine tail 16 rfl (by kernel_rfl) rfl (fun xr => ?_)
  simp only [List.drop_succ_cons, List.drop_zero]
  have O5 := Lib.hid ((O.out.bw xr.bw).set j hj y1 hy1)
  have T5 := still_sc xr.now q (o + j) (.int .u8 (y1 : Nat))
  have M5 := Lib.hid ((M0.out.bw xr.bw).still T5 (by have := hgl.out; have := hab.out; have := hbc.out; simp; omega))
  have W5 := Lib.hid ((Wc.out.bw xr.bw).still T5 (by simp; omega) (by simp; omega))
  have B5 := Lib.hid ((B.out.trans xr.bw).stP T5 (fun k hk => by obtain rfl : k = q := (by simpa using hk); have := hgl.out; have := hab.out; have := hbc.out; have := hwg.out; omega))
  go_upto_region 17 with (fail)
  clear T5 l1 l2 O M0 Wc B
  generalize xr.now.setCell ⟨q, o + j, none⟩ (.int .u8 (y1 : Nat)) = w16 at *
  generalize hX' : X.set j y1 = X' at *
  have hXl : X'.length = L := by rw [← hX', List.length_set]; exact hL
  clear hX' ej e1 hj j1 j2 hL
  go_upto_region 18 with (fail)
  have V1 := Lib.hid (O5.out.sb.takeW (L - 10) (by omega))
  have V2 := Lib.hid (O5.out.sb.dropW (L - 10) (by omega))
  have hoth := Lib.hid (open_other KK X' O5.out.2.1)
  rw [hXl] at hoth
  generalize X'.take (L - 10) = XA at *
  generalize X'.drop (L - 10) = XB at *
  have hTb : ByL (tagN KK XA 0) := by
    unfold tagN
    exact (hmac_byt _ _).take _
  have hE := bstr_eqb hTb V2.out.2.1
  generalize hTG : tagN KK XA 0 = TG at *
  generalize hbq : decide (TG = XB) = bq at *
  have E2 : ∀ y : LaterS [] w16, _ := fun y => conv_sb (V2.out.bw y.bw)
  generalize bstr XB = S2 at *
  generalize hS1 : bstr TG = S1 at *
  have hl10 : (L : Int) - 10 = ((L - 10 : Nat) : Int) := by omega
  replace hTb := Lib.hid hTb
  replace hTG := Lib.hid hTG
  replace hbq := Lib.hid hbq
  replace hS1 := Lib.hid hS1
  replace hl10 := Lib.hid hl10
  replace hXl := Lib.hid hXl
  try simp only [Act.put, List.setIfInBounds_toArray, List.set_cons_succ, List.set_cons_zero]
  refine wp_region_gg [] [] [] (by kernel_rfl) ?_
  refine hoist [] [] (a1 := ?_) 0 rfl (by kernel_rfl) (.inl ⟨rfl, rfl⟩) rfl rfl rfl (fun x K hK => ?_) ?_
  rotate_left
  · refine qlA ar30 rfl (by rfl) hKl.out (fun w' hw => by subst hw; exact M5.out.bw x.bw) (by simp only [Act.put, List.setIfInBounds_toArray, List.set_cons_succ, List.set_cons_zero]; rfl) ?_
    exact hK
  refine hoist [] [] (a1 := ?_) 5 rfl (by kernel_rfl) (.inl ⟨rfl, rfl⟩) rfl rfl rfl (fun x K hK => ?_) ?_
  rotate_left
  · go_big_quiet_op
    exact hK
  refine hoist [] [] (a1 := ?_) 6 rfl (by kernel_rfl) (.inl ⟨rfl, rfl⟩) rfl rfl rfl (fun x K hK => ?_) ?_
  rotate_left
  · go_big_quiet_op
    exact hK
  refine hoist [] [] (a1 := ?_) 7 rfl (by kernel_rfl) (.inl ⟨rfl, rfl⟩) rfl rfl rfl (fun x K hK => ?_) ?_
  rotate_left
  · refine qlCutH (hi := L - 10) rfl (by rfl) (by rfl) (by omega) (by omega) (by simp only [Act.put, List.setIfInBounds_toArray, List.set_cons_succ, List.set_cons_zero]; rfl) ?_
    exact hK
  refine hoist [] [] (a1 := ?_) 10 rfl (by kernel_rfl) (.inl ⟨rfl, rfl⟩) rfl rfl rfl (fun x K hK => ?_) ?_
  rotate_left
  · go_big_quiet_op
    exact hK
  refine hoist [] [] (a1 := ?_) 11 rfl (by kernel_rfl) (.inl ⟨rfl, rfl⟩) rfl rfl rfl (fun x K hK => ?_) ?_
  rotate_left
  · go_big_quiet_op
    exact hK
  refine hoist [] [] (a1 := ?_) 12 rfl (by kernel_rfl) (.inl ⟨rfl, rfl⟩) rfl rfl rfl (fun x K hK => ?_) ?_
  rotate_left
  · refine qlCutL (lo := L - 10) rfl (by rfl) (by rfl) (by omega) (by omega) (by simp only [Act.put, List.setIfInBounds_toArray, List.set_cons_succ, List.set_cons_zero]; rfl) ?_
    exact hK
  refine hoist [] [] (a1 := ?_) 13 rfl (by kernel_rfl) (.inl ⟨rfl, rfl⟩) rfl rfl rfl (fun x K hK => ?_) ?_
  rotate_left
  · go_big_quiet_op
    exact hK
  refine effect 1 rfl (by kernel_rfl) (by kernel_rfl) rfl (fun x1 K hK => ?_)
  go_simp
  refine Calls.mono (cR x1.now).out ?_
  rintro e w17 ⟨gr, rfl, hrg, hb⟩
  refine hK _ _ (hb.still []) ?_
  clear hK K
  have B6 := Lib.hid (x1.bw.trans hb)
  replace hrg := Lib.hid hrg
  clear hb cR E2
  have E2 : ∀ y : LaterS [] w17, _ := fun y => conv_sb (V2.out.bw (B6.out.trans y.bw))
  try simp only [Act.put, List.setIfInBounds_toArray, List.set_cons_succ, List.set_cons_zero]
  refine hoist [] [] (a1 := ?_) 2 rfl (by kernel_rfl) (.inl ⟨rfl, rfl⟩) rfl rfl rfl (fun x K hK => ?_) ?_
  rotate_left
  · go_big_quiet_op
    exact hK
  refine hoist [] [] (a1 := ?_) 3 rfl (by kernel_rfl) (.inl ⟨rfl, rfl⟩) rfl rfl rfl (fun x K hK => ?_) ?_
  rotate_left
  · go_big_quiet_op
    exact hK
  refine hoist [] [] (a1 := ?_) 4 rfl (by kernel_rfl) (.inl ⟨rfl, rfl⟩) rfl rfl rfl (fun x K hK => ?_) ?_
  rotate_left
  · refine qlW ar50 rfl (by rfl) hKK.out (fun w' hw => by subst hw; exact fun j v hj => x.bw.cell (hrg.out j v hj)) (by simp only [Act.put, List.setIfInBounds_toArray, List.set_cons_succ, List.set_cons_zero]; rfl) ?_
    exact hK
  refine effect 8 rfl (by kernel_rfl) (by kernel_rfl) rfl (fun x8 K hK => ?_)
  go_simp
  refine Calls.mono (cT (some ⟨q, o, none⟩) (L - 10) cX XA (by omega) x8.now (V1.out.bw (B6.out.trans x8.bw))).out ?_
  rintro e w18 ⟨s9, c9, rfl, O9, hb⟩
  refine hK _ _ (hb.still []) ?_
  clear hK K
  rw [hTG.out] at O9
  have B7 := Lib.hid (B6.out.trans (x8.bw.trans hb))
  clear hb E2 cT
  have E2 : ∀ y : LaterS [] w18, _ := fun y => conv_sb (V2.out.bw (B7.out.trans y.bw))
  have E1 : ∀ y : LaterS [] w18, _ := fun y => conv_sb (O9.bw y.bw).sb
  rw [hS1.out] at E1
  clear O9
  try simp only [Act.put, List.setIfInBounds_toArray, List.set_cons_succ, List.set_cons_zero]
  refine hoist [] [] (a1 := ?_) 9 rfl (by kernel_rfl) (.inl ⟨rfl, rfl⟩) rfl rfl rfl (fun x K hK => ?_) ?_
  rotate_left
  · go_big_quiet_op
    exact hK
  refine hoist [] [] (a1 := ?_) 14 rfl (by kernel_rfl) (.inl ⟨rfl, rfl⟩) rfl rfl rfl (fun x K hK => ?_) ?_
  rotate_left
  · go_big_quiet_op
    exact hK
  refine done (by kernel_rfl) (fun xr => ?_)
  have B8 := Lib.hid (B5.out.trans (B7.out.trans xr.bw))
  have O8 := Lib.hid (O5.out.bw (B7.out.trans xr.bw))
  have W8 := Lib.hid (W5.out.bw (B7.out.trans xr.bw))
  clear E1 E2 B5 O5 W5 M5 V1 V2 B6 B7 hrg hE
  generalize xr.now = w19 at *
  cases bq with
  | true =>
    go_wp2_with fail
    go_ret
    exact ⟨rfl, B8.out⟩
  | false =>
    have hne' : XB ≠ TG := fun h => (of_decide_eq_false hbq.out) h.symm
    have hR := hoth.out hne'
    have cO := Lib.hid (open_ok gc KK 9 0 mc [] (some ⟨q, o, none⟩) L cX X' MOk.nil (by omega) (by decide) w19 W8.out O8.out.sb (fun k hk => by have := hown.out k hk; omega))
    generalize openN KK 9 0 [] X' = R at *
    obtain ⟨⟨er, ix, dq⟩, u, M'⟩ := R
    dsimp only at hR
    obtain ⟨her, hu⟩ := hR
    cases hu
    have d2 : ((er : Int) != 0) = true := by simpa using her
    clear hne' hoth her hbq
    go_upto_region 20 with (fail)
    go_wp2_with fail
    refine Calls.mono cO.out ?_
    rintro e w20 hp
    obtain ⟨so4, co4, se4, ce4, sp4, cp4, rfl, -, W9, T9⟩ := hp.form
    have B9 := Lib.hid (B8.out.stP T9 (fun k hk => by have := hgl.out; have := hab.out; have := hbc.out; have := hwg.out; simp at hk; rcases hk with rfl | rfl <;> omega))
    clear hp T9 cO B8
    simp only [rtpC]
    generalize dq.others.length = n4 at *
    generalize dq.extra.length = n5 at *
    generalize dq.payload.length = n6 at *
    have BA : BW w20 (w20.alloc (.cells #[.bool dq.marker, .int .u8 (dq.typ : Nat), .int .u16 (dq.seq : Nat), .int .u32 (dq.stamp : Nat), .int .u32 (dq.source : Nat), .slice so4 n4 co4, .bool dq.ext, .int .u16 (dq.profile : Nat), .slice se4 n5 ce4, .slice sp4 n6 cp4, .int .u8 (dq.pad : Nat)] 38)) := (BW.refl _).alloc
    have W10 := Lib.hid (W9.bw BA)
    have B10 := Lib.hid (B9.out.trans BA)
    clear BA W9 B9
    go_upto_region 21 with (fail)
    generalize (w20.alloc _) = w21 at *
    go_wp2_with fail
    refine Calls.mono (way_used gc KK 9 0 mc [] w21 W10.out) ?_
    rintro e w' ⟨rfl, rfl⟩
    dsimp only
    go_wp2_with fail
    go_ret
    exact ⟨rfl, B10.out⟩

theorem law_srback (cs0 cs1 : Array Value) (a2 a3 : Int) (w : World) (w0 : Rd w (.scope (.seq (.block 16 (.label 4)) (.seq (.block 14 (.label 4)) .skip))) cs0.toList) (w1 : Rd w rtpTy cs1.toList) (w2 : (Lit.int .u16 a2).wf = true) (w3 : (Lit.int .u8 a3).wf = true) :
    Calls Try.prog 4 #[.agg cs0, .agg cs1, .int .u16 a2, .int .u8 a3] w fun e w' => e = .returned (.bool true) ∧ Below w.heap.size w w' := by
  obtain ⟨k, s, rfl, h1, h2, h3, h4⟩ := master_of_Rd w0
  obtain ⟨d, hV, wf⟩ := RtpV_of_Rd w1
  have b2 := bounds_u16 w2
  have b3 := bounds_u8 w3
  obtain ⟨n2, rfl⟩ := Int.eq_ofNat_of_zero_le b2.1
  obtain ⟨n3, rfl⟩ := Int.eq_ofNat_of_zero_le b3.1
  exact back_walk k s h1 h2 h3 h4 cs1 d n2 n3 (by omega) (by omega) w hV wf
end Go.Proofs.Ytikmhlbpefednaa
