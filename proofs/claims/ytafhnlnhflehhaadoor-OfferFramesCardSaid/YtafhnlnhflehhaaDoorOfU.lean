/- The program's Frames (printed by wip/gen/genOfU.py). No condition but the sizes'. -/
import Derived.Test.YtafhnlnhflehhaaDoorOfR
import Derived.Test.YtafhnlnhflehhaaDoorOfT
namespace Go.Proofs.YtafhnlnhflehhaaDoor
open Go.RowKit
def joinF (st rm : Int) : FrD := ⟨1, st, 0, rm, 0, 0, -1, []⟩
def pubF (st : Int) (x : WishD) : FrD := ⟨3, st, 0, 0, x.t, 0, x.c, x.s⟩
def frG (L : List FrD) (i : Nat) : FrD := L.getD i (joinF 0 0)
def numN (nonce : Nat) (L : List FrD) : Nat → List FrD
 | 0 => L
 | k + 1 => (numN nonce L k).set k { frG (numN nonce L k) k with nonce := (nonce + k) % 18446744073709551616 }
theorem frG_get {L : List FrD} {i : Nat} (h : i < L.length) : frG L i = L[i] := by
 unfold frG List.getD; rw [List.getElem?_eq_getElem h]; rfl
def pubL (st rm : Int) (W : List WishD) : List FrD := joinF st rm :: W.map (pubF st)
def heL (st : Int) (p : HearD → Bool) (H : List HearD) : List FrD := H.flatMap fun x => subL st x (p x)
def rawL (d : OffD) (rm : Int) (p : HearD → Bool) : List FrD := pubL d.seat rm d.W ++ heL d.seat p d.H
theorem pubL_take (st rm : Int) (W : List WishD) {k : Nat} (h : k < W.length) : pubL st rm (W.take (k + 1)) = pubL st rm (W.take k) ++ [pubF st (wi W k)] := by
 unfold pubL
 rw [List.take_add_one, List.getElem?_eq_getElem h, wi_get h, List.map_append]
 rfl
theorem heL_take (st : Int) (p : HearD → Bool) (H : List HearD) {k : Nat} (h : k < H.length) : heL st p (H.take (k + 1)) = heL st p (H.take k) ++ subL st (he H k) (p (he H k)) := by
 unfold heL
 rw [List.take_add_one, List.getElem?_eq_getElem h, he_get h, List.flatMap_append]
 show _ ++ ([H[k]].flatMap fun x => subL st x (p x)) = _
 rw [List.flatMap_singleton]
theorem swOf : SwT 25 3 := ⟨⟨_, Tryd.underlying25, rfl, rfl⟩, by kernel_rfl⟩
theorem swWi : SwT 39 3 := ⟨⟨_, Tryd.underlying39, rfl, rfl⟩, by kernel_rfl⟩
def FrRes (w0 w' : World) (base : Nat) (d : OffD) (rm : Int) (nonce : Nat) (p : HearD → Bool) (e : Ending) : Prop := ∃ (s : Option Addr) (n cp : Nat), e = .returned (.slice s n cp) ∧ n = (rawL d rm p).length ∧ n ≤ 1000 ∧ EQ (EFm w0) 43 w' base (.slice s n cp) n (numN nonce (rawL d rm p) n)
theorem fm_form {w0 w : World} {base n cap : Nat} {sv : Option Addr} {L : List FrD} (h : EQ (EFm w0) 43 w base (.slice sv n cap) n L) (h0 : 0 < n) : ∃ g o, sv = some ⟨g, o, none⟩ ∧ ∀ i (_ : i < n), w.cell? ⟨g, o + i * 8 + 2, none⟩ = some (.int .u64 ((frG L i).nonce : Nat)) := by
 have hl := h.1
 obtain ⟨g, o, cap', hsl, _, _, _, _, hce⟩ := h.form h0
 simp only [Value.slice.injEq] at hsl
 refine ⟨g, o, hsl.1, fun i hi => ?_⟩
 obtain ⟨c, ⟨s, m, cp, hc, _⟩, hcc⟩ := hce i (by omega)
 have z := hcc 2 (show 2 < 8 by decide)
 have e2 : (EFm w0).size = 8 := rfl
 rw [hc, e2, ← Nat.add_assoc] at z
 rw [frG_get (by omega)]
 exact z
theorem fm_set {w0 w : World} {base n cap g o : Nat} {L : List FrD} (h : EQ (EFm w0) 43 w base (.slice (some ⟨g, o, none⟩) n cap) n L) (i : Nat) (hi : i < n) (x : Nat) : EQ (EFm w0) 43 (w.setCell ⟨g, o + i * 8 + 2, none⟩ (.int .u64 (x : Nat))) base (.slice (some ⟨g, o, none⟩) n cap) n (L.set i { frG L i with nonce := x }) := by
 have hl := h.1
 have hOk : (EFm w0).Ok w g := h.noU (by decide) g (by simp [Value.ownBlock])
 have := h.setJ hOk (a := { frG L i with nonce := x }) (u := .int .u64 (x : Nat)) i 2 (show 2 < 8 by decide) (by omega) (fun c ⟨s, m, cp, hc, hq⟩ => ⟨s, m, cp, by rw [hc, frG_get (by omega)]; rfl, by rw [frG_get (by omega)]; exact hq⟩)
 rw [show (EFm w0).size = 8 from rfl, ← Nat.add_assoc] at this
 exact this
set_option maxRecDepth 100000 in
set_option maxHeartbeats 8000000 in
theorem frames_any (cs : Array Value) (d : OffD) (sW : Option Addr) (cW : Nat) (sH : Option Addr) (cH : Nat) (rm : Int) (nonce : Nat) (w : World) (h : OffV w cs d sW cW sH cH) (hW : d.W.length ≤ 40) (hs : ∀ i, i < d.W.length → (wi d.W i).s.length ≤ 40) (hnH : d.H.length ≤ 40) :
  Calls Tryd.prog 6 #[.agg cs, .int .i64 rm, .int .u64 (nonce : Nat)] w fun e w' => ((MayO d ∧ FrRes w w' w.heap.size d rm nonce (fun x => x.l != -1) e) ∨ (¬ MayO d ∧ e = .returned (.slice none 0 0))) ∧ BW w w' := by
 have h0 := h
 obtain ⟨rfl, hw, hh⟩ := h
 obtain ⟨seat, W, H⟩ := d
 dsimp only at hw hh hW hs hnH ⊢
 obtain ⟨_, _, he, hWc, hWm⟩ := hw.len
 cases he
 obtain ⟨_, _, he, hHc, hHm⟩ := hh.len
 cases he
 unfold maxLen at hWm hHm
 have cM0 := fun wx (hb : BW w wx) => may_any _ _ _ _ _ _ wx (h0.bw hb) hW hs hnH
 clear h0
 obtain ⟨nW, hnW⟩ : ∃ n, W.length = n := ⟨_, rfl⟩
 obtain ⟨nH, hnHe⟩ : ∃ n, H.length = n := ⟨_, rfl⟩
 have cM : Hid (∀ wx, BW w wx → Calls Tryd.prog 11 #[.agg #[.int .i64 seat, .slice sW nW cW, .slice sH nH cH]] wx fun e w' => MayOR ⟨seat, W, H⟩ e ∧ BW wx w') := Lib.hid (by rw [← hnW, ← hnHe]; exact cM0)
 unfold offC
 dsimp only
 rw [hnW] at hw hWc hW hs ⊢
 rw [hnHe] at hh hHc hnH ⊢
 have B := (BW.refl w).alloc (o := .cells #[.int .i64 seat, .slice sW nW cW, .slice sH nH cH] 25)
 have X := HpB.new w (.cells #[.int .i64 seat, .slice sW nW cW, .slice sH nH cH] 25)
 have hH := Lib.hid hh
 have hWQ := Lib.hid hw
 obtain ⟨base, hbase⟩ : ∃ b, w.heap.size = b := ⟨_, rfl⟩
 have hb0 := Lib.hid hbase
 rw [hbase]
 clear hbase hh hw cM0
 replace hnW := Lib.hid hnW
 replace hnHe := Lib.hid hnHe
 replace B := Lib.hid B
 replace X := Lib.hid X
 replace hs := Lib.hid hs
 go_enter Tryd.func6, Tryd.ntmps6
 go_upto_region 1 with (fail)
 generalize w.alloc _ = w1 at *
 generalize hgw : w.heap.size = g at *
 have hb1 : Hid (w.heap.size = base) := Lib.hid (hgw.trans hb0.out)
 clear hb0 hgw
 go_wp2_with (refine swLd swOf rfl rfl rfl X.out rfl ?_)
 refine Calls.mono (cM.out _ B.out) ?_
 rintro e w2 ⟨⟨b, rfl, hb⟩, hbw⟩
 replace X := Lib.hid (X.out.bw hbw)
 replace B := Lib.hid (B.out.trans hbw)
 replace hb := Lib.hid hb
 clear hbw
 dsimp only
 cases b with
 | false =>
  go_wp2_with fail
  go_ret
  exact ⟨.inr ⟨fun h => (by have := hb.out.2 h; cases this), rfl⟩, B.out⟩
 | true =>
  have hMay := Lib.hid (hb.out.1 rfl)
  clear hb
  have q0 := (hp_cell X.out 0).trans (show _ = some (.int .i64 seat) from rfl)
  have hz : Hid (base ≤ w2.heap.size) := Lib.hid (by rw [← hb1.out]; exact B.out.size)
  have Q := Lib.hid (EQ.new1 (E := EFm w) w2 43 base (joinF seat rm) (frC 1 seat 0 rm 0 0 (-1) (.slice none 0 0)).toList ⟨none, 0, 0, rfl, SrcR.nil w _ base⟩ hz.out)
  have hb := (BW.refl w2).alloc (o := .cells (frC 1 seat 0 rm 0 0 (-1) (.slice none 0 0)).toList.toArray 43)
  unfold frC at Q hb
  replace B := Lib.hid (B.out.trans hb)
  replace X := Lib.hid (X.out.bw hb)
  clear hb hz
  go_upto_region 4 with (fail)
  clear q0
  generalize w2.alloc _ = w3 at *
  generalize w2.heap.size = g3 at *
  have q1 := (hp_cell X.out 1).trans (show _ = some (.slice sW nW cW) from rfl)
  have Q1 : Hid (EQ (EFm w) 43 w3 base (.slice (some ⟨g3, 0, none⟩) 1 1) 1 (pubL seat rm (W.take 0))) := Lib.hid Q.out
  clear Q
  go_upto_region 5 with (fail)
  clear q1
  go_loopg [7, 24] nW (fun m' v7 v24 wx => ∃ (k n cp : Nat) (s : Option Addr), m' = nW - k ∧ k ≤ nW ∧ v24 = .int .i64 (k : Nat) ∧ v7 = .slice s n cp ∧ Hid (n = k + 1) ∧ n ≤ 50 ∧ Hid (EQ (EFm w) 43 wx base (.slice s n cp) n (pubL seat rm (W.take k))) ∧ Hid (HpB wx g (.cells #[.int .i64 seat, .slice sW nW cW, .slice sH nH cH] 25)) ∧ Hid (BW w wx))
  case atStart => exact ⟨0, 1, 1, _, by omega, by omega, rfl, rfl, Lib.hid rfl, by omega, Q1, X, B⟩
  case round =>
   clear Q1 X B
   obtain ⟨k, n, cp, s, rfl, hk, rfl, rfl, hnk, hn50, Q, X, B⟩ := hrel
   by_cases hkn : k < nW
   ·have dk : decide ((k : Int) < (nW : Int)) = true := by simp; omega
    have hkL : k < W.length := by rw [hnW.out]; exact hkn
    have hs40 := hs.out k hkn
    obtain ⟨gw, ow, rfl, -, hc⟩ := wi_form hWQ.out (by omega)
    obtain ⟨sk, mk, ck, y0, y1, y2, hkq⟩ := hc k hkL
    rw [← wi_get hkL] at y0 y1 hkq
    have hmk : (wi W k).s.length = mk := hkq.1
    replace hkq := Lib.hid hkq
    replace y0 := B.out.cell y0
    replace y1 := B.out.cell y1
    replace y2 := B.out.cell y2
    clear hc
    have hpl : Hid (pubL seat rm (W.take (k + 1)) = pubL seat rm (W.take k) ++ [pubF seat (wi W k)]) := Lib.hid (pubL_take seat rm W hkL)
    have hpu : Hid (pubF seat (wi W k) = ⟨3, seat, 0, 0, (wi W k).t, 0, (wi W k).c, (wi W k).s⟩) := Lib.hid rfl
    generalize wi W k = wk at *
    obtain ⟨t, c, ss⟩ := wk
    dsimp only at *
    replace hkL := Lib.hid hkL
    go_upto_region 6 with (fail)
    rename World => wo
    go_upto_region 7 with (refine wpList_store_new rfl 39 _ _ rfl _ #[.int .i64 t, .int .i64 c, .slice sk mk ck] _ rfl rfl (by kernel_rfl) rfl rfl ?_)
    have hb := (BW.refl wo).alloc (o := .cells #[.int .i64 t, .int .i64 c, .slice sk mk ck] 39)
    have Y := Lib.hid (HpB.new wo (.cells #[.int .i64 t, .int .i64 c, .slice sk mk ck] 39))
    replace Q := Lib.hid (Q.out.bw hb)
    replace X := Lib.hid (X.out.bw hb)
    replace B := Lib.hid (B.out.trans hb)
    clear hb y0 y1 y2
    generalize wo.alloc (.cells #[.int .i64 t, .int .i64 c, .slice sk mk ck] 39) = w4 at *
    generalize wo.heap.size = gx at *
    clear wo
    have q0 := (hp_cell X.out 0).trans (show _ = some (.int .i64 seat) from rfl)
    go_wp2_with (refine swLd swWi rfl rfl rfl Y.out rfl ?_)
    refine Calls.mono (publish_any seat t c sk mk ck ss w4 (hkq.out.bw B.out) (by omega)) ?_
    rintro e w5 ⟨s', c', rfl, hq, hb⟩
    clear q0
    have hz4 : base ≤ w4.heap.size := by rw [← hb1.out]; exact B.out.size
    replace hq := Lib.hid (hq.up hz4)
    replace Q := Lib.hid (Q.out.bw hb)
    replace X := Lib.hid (X.out.bw hb)
    replace B := Lib.hid (B.out.trans hb)
    clear hb hz4 Y
    have L := Sls.new1 (E := EFm w) w5 43 (frC 3 seat 0 0 t 0 c (.slice s' mk c')).toList rfl
    have hb := (BW.refl w5).alloc (o := .cells (frC 3 seat 0 0 t 0 c (.slice s' mk c')).toList.toArray 43)
    have hR : Hid ((EFm w).R (w5.alloc (.cells (frC 3 seat 0 0 t 0 c (.slice s' mk c')).toList.toArray 43)) base ⟨3, seat, 0, 0, t, 0, c, ss⟩ (frC 3 seat 0 0 t 0 c (.slice s' mk c')).toList) := Lib.hid ⟨s', mk, c', rfl, .inr (hq.out.bw hb)⟩
    replace B := Lib.hid (B.out.trans hb)
    replace Q := Lib.hid (Q.out.bw hb)
    replace X := Lib.hid (X.out.bw hb)
    have hz : Hid (base ≤ (w5.alloc (.cells (frC 3 seat 0 0 t 0 c (.slice s' mk c')).toList.toArray 43)).heap.size) := Lib.hid (by rw [← hb1.out]; exact B.out.size)
    clear hb hq
    unfold frC at L B Q X hz hR
    unfold frC
    replace L := Lib.hid L
    dsimp only
    obtain ⟨_, _, he, hncp, hcpm⟩ := Q.out.len
    cases he
    unfold maxLen at hcpm
    go_upto_region 8 with (at_builtin; go_must (refine wpList_apEQ slFr rfl _ _ rfl base (.slice s n cp) n _ rfl Q.out _ rfl 1 [⟨3, seat, 0, 0, t, 0, c, ss⟩] _ L.out (EL.single hR.out) rfl (by omega) hz.out (Q.out.noU (by decide)) ?_; intro s7 c7 w7 hc7 hm7 E7 T7 B7 G7; unfold maxLen at hm7; replace E7 := Lib.hid E7; replace T7 := Lib.hid T7; replace B := Lib.hid (B.out.step B7 (Nat.le_of_eq hb1.out)); clear B7 G7 hz L hR))
    have X7 := Lib.hid (X.out.st T7.out (fun hm => Q.out.ne X.out (by decide) _ (by simpa using hm) rfl))
    have E8 : Hid (EQ (EFm w) 43 w7 base (.slice s7 (n + 1) c7) (n + 1) (pubL seat rm (W.take (k + 1)))) := Lib.hid (by rw [hpl.out, hpu.out]; exact E7.out)
    clear T7 X Q E7 hpl hpu
    try simp only [Act.put, List.setIfInBounds_toArray, List.set_cons_succ, List.set_cons_zero]
    go_wp2_with fail
    go_roundg (nW - (k + 1))
    case measure => omega
    case rel => exact ⟨k + 1, n + 1, c7, s7, rfl, by omega, by first | rfl | (push_cast; rfl), rfl, Lib.hid (by rw [hnk.out]), by have := hnk.out; omega, E8, X7, B⟩
   ·obtain rfl : k = nW := by omega
    have dk : decide ((k : Int) < (k : Int)) = false := by simp
    have hall : W.take k = W := by rw [← hnW.out, List.take_length]
    rw [hall] at Q
    clear hall
    have q2 := (hp_cell X.out 2).trans (show _ = some (.slice sH nH cH) from rfl)
    have Q2 : Hid (EQ (EFm w) 43 wr base (.slice s n cp) n (pubL seat rm W ++ heL seat (fun x => x.l != -1) (H.take 0))) := Lib.hid (by
     rw [show heL seat (fun x => x.l != -1) (H.take 0) = [] from rfl, List.append_nil]; exact Q.out)
    clear Q
    go_upto_region 10 with (fail)
    clear q2 dk
    go_loopg [7, 39] nH (fun m' v7 v39 wx => ∃ (j n cp : Nat) (s : Option Addr), m' = nH - j ∧ j ≤ nH ∧ v39 = .int .i64 (j : Nat) ∧ v7 = .slice s n cp ∧ n ≤ 50 + 2 * j ∧ 0 < n ∧ Hid (EQ (EFm w) 43 wx base (.slice s n cp) n (pubL seat rm W ++ heL seat (fun x => x.l != -1) (H.take j))) ∧ Hid (HpB wx g (.cells #[.int .i64 seat, .slice sW k cW, .slice sH nH cH] 25)) ∧ Hid (BW w wx))
    case atStart => exact ⟨0, n, cp, s, by omega, by omega, rfl, rfl, by omega, by have := hnk.out; omega, Q2, X, B⟩
    case round =>
     clear Q2 X B hnk hn50
     obtain ⟨j, n, cp, s, rfl, hj, rfl, rfl, hn2, hn0, Q, X, B⟩ := hrel
     by_cases hjn : j < nH
     ·have dj : decide ((j : Int) < (nH : Int)) = true := by simp; omega
      have hjL : j < H.length := by rw [hnHe.out]; exact hjn
      obtain ⟨gh, oh, rfl, hc⟩ := he_form hH.out (by omega)
      obtain ⟨y0, y1, y2⟩ := hc j hjL
      replace y0 := B.out.cell y0
      replace y1 := B.out.cell y1
      replace y2 := B.out.cell y2
      clear hc
      have hpl : Hid (heL seat (fun x => x.l != -1) (H.take (j + 1)) = heL seat (fun x => x.l != -1) (H.take j) ++ subL seat (he H j) ((he H j).l != -1)) := Lib.hid (heL_take seat (fun x => x.l != -1) H hjL)
      generalize he H j = hj' at *
      obtain ⟨o, t, l⟩ := hj'
      dsimp only at y0 y1 y2 hpl
      have hdl : Hid (∃ p, (l != -1) = p) := Lib.hid ⟨_, rfl⟩
      replace hjL := Lib.hid hjL
      go_upto_region 11 with (fail)
      rename World => wo
      go_upto_region 12 with (refine wpList_store_new rfl 41 _ _ rfl _ #[.int .i64 o, .int .i64 t, .int .i64 l] _ rfl rfl (by kernel_rfl) rfl rfl ?_)
      have hb := (BW.refl wo).alloc (o := .cells #[.int .i64 o, .int .i64 t, .int .i64 l] 41)
      have Y := Lib.hid (HpB.new wo (.cells #[.int .i64 o, .int .i64 t, .int .i64 l] 41))
      replace Q := Lib.hid (Q.out.bw hb)
      replace X := Lib.hid (X.out.bw hb)
      replace B := Lib.hid (B.out.trans hb)
      clear hb y0 y1 y2
      generalize wo.alloc (.cells #[.int .i64 o, .int .i64 t, .int .i64 l] 41) = w4 at *
      generalize wo.heap.size = gx at *
      clear wo
      have q0 := (hp_cell X.out 0).trans (show _ = some (.int .i64 seat) from rfl)
      go_wp2_with (refine swLd swHe rfl rfl rfl Y.out rfl ?_)
      obtain ⟨p, hp⟩ := hdl.out
      rw [hp] at hpl
      refine Calls.mono (subscribe_any w seat ⟨o, t, l⟩ p hp w4) ?_
      rintro e w5 ⟨s', n', c', rfl, hn', hq, hb⟩
      clear q0 hdl
      have hz4 : base ≤ w4.heap.size := by rw [← hb1.out]; exact B.out.size
      replace hq := hq.up hz4
      replace Q := Lib.hid (Q.out.bw hb)
      replace X := Lib.hid (X.out.bw hb)
      replace B := Lib.hid (B.out.trans hb)
      have hz : Hid (base ≤ w5.heap.size) := Lib.hid (by rw [← hb1.out]; exact B.out.size)
      clear hb hz4 Y
      obtain ⟨hql, xs, hqS, hqE⟩ := hq.sq
      replace hql := Lib.hid hql
      replace hqS := Lib.hid hqS
      replace hqE := Lib.hid hqE
      clear hq hp
      dsimp only
      obtain ⟨_, _, he, hncp, hcpm⟩ := Q.out.len
      cases he
      unfold maxLen at hcpm
      go_upto_region 13 with (at_builtin; go_must (refine wpList_apEQ slFr rfl _ _ rfl base (.slice s n cp) n _ rfl Q.out _ rfl n' (subL seat ⟨o, t, l⟩ p) xs hqS.out hqE.out hql.out (by omega) hz.out (Q.out.noU (by decide)) ?_; intro s7 c7 w7 hc7 hm7 E7 T7 B7 G7; unfold maxLen at hm7; replace E7 := Lib.hid E7; replace T7 := Lib.hid T7; replace B := Lib.hid (B.out.step B7 (Nat.le_of_eq hb1.out)); clear B7 G7 hz hqS hqE hql))
      have X7 := Lib.hid (X.out.st T7.out (fun hm => Q.out.ne X.out (by decide) _ (by simpa using hm) rfl))
      have E8 : Hid (EQ (EFm w) 43 w7 base (.slice s7 (n + n') c7) (n + n') (pubL seat rm W ++ heL seat (fun x => x.l != -1) (H.take (j + 1)))) := Lib.hid (by rw [hpl.out, ← List.append_assoc]; exact E7.out)
      clear T7 X Q E7 hpl
      try simp only [Act.put, List.setIfInBounds_toArray, List.set_cons_succ, List.set_cons_zero]
      go_wp2_with fail
      go_roundg (nH - (j + 1))
      case measure => omega
      case rel => exact ⟨j + 1, n + n', c7, s7, rfl, by omega, by first | rfl | (push_cast; rfl), rfl, by omega, by omega, E8, X7, B⟩
     ·obtain rfl : j = nH := by omega
      have dj : decide ((j : Int) < (j : Int)) = false := by simp
      have hall : H.take j = H := by rw [← hnHe.out, List.take_length]
      rw [hall] at Q
      have Q3 : Hid (EQ (EFm w) 43 wr base (.slice s n cp) n (numN nonce (rawL ⟨seat, W, H⟩ rm (fun x => x.l != -1)) 0)) := Lib.hid Q.out
      have hlen : Hid (n = (rawL ⟨seat, W, H⟩ rm (fun x => x.l != -1)).length) := Lib.hid Q.out.1.symm
      clear hall Q X
      generalize hrw : rawL ⟨seat, W, H⟩ rm (fun x => x.l != -1) = L at *
      obtain ⟨gr, orr, rfl, -⟩ := fm_form Q3.out hn0
      obtain ⟨_, _, he, hncp, hcpm⟩ := Q3.out.len
      cases he
      unfold maxLen at hcpm
      have hn1000 : n ≤ 1000 := by omega
      replace hrw := Lib.hid hrw
      go_upto_region 15 with (fail)
      clear dj
      go_loopg [52] n (fun m' v52 wx => ∃ i : Nat, m' = n - i ∧ i ≤ n ∧ v52 = .int .i64 (i : Nat) ∧ Hid (EQ (EFm w) 43 wx base (.slice (some ⟨gr, orr, none⟩) n cp) n (numN nonce L i)) ∧ Hid (BW w wx))
      case atStart => exact ⟨0, by omega, by omega, rfl, Q3, B⟩
      case round =>
       clear Q3 B
       obtain ⟨i, rfl, hi, rfl, Q, B⟩ := hrel
       by_cases hin : i < n
       ·have di : decide ((i : Int) < (n : Int)) = true := by simp; omega
        obtain ⟨g2, o2, hsl, hc⟩ := fm_form Q.out hn0
        cases hsl
        have z2 := hc i hin
        have f2 := Q.out.frz hn0 (orr + i * 8 + 2)
        have hset := Lib.hid (fm_set Q.out i hin ((nonce + i) % 18446744073709551616))
        generalize (frG (numN nonce L i) i).nonce = old at *
        clear hc
        have hsz : i % 18446744073709551616 = i := Nat.mod_eq_of_lt (by omega)
        have hst : Hid (∀ u : Value, Still [gr] wr (wr.setCell ⟨gr, orr + i * 8 + 2, none⟩ u)) := Lib.hid (fun u => still_setR wr gr (orr + i * 8 + 2) u)
        have hge : Hid (base ≤ gr) := Lib.hid (Q.out.ge' gr (by simp [Value.ownBlock]))
        clear Q
        go_wp2_with fail
        go_roundg (n - (i + 1))
        case measure => omega
        case rel => exact ⟨i + 1, rfl, by omega, by first | rfl | (push_cast; rfl), hset, Lib.hid (B.out.stP (hst.out _) (fun k hk => by obtain rfl : k = gr := (by simpa using hk); rw [hb1.out]; exact hge.out))⟩
       ·obtain rfl : i = n := by omega
        have di : decide ((i : Int) < (i : Int)) = false := by simp
        go_wp2_with fail
        go_ret
        exact ⟨.inl ⟨hMay.out, _, _, _, rfl, by rw [hrw.out]; exact hlen.out, hn1000, by rw [hrw.out]; exact Q.out⟩, B.out⟩
end Go.Proofs.YtafhnlnhflehhaaDoor
