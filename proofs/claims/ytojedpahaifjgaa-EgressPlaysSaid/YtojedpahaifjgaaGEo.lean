/- An egress: the document's example. No condition. Ops on an egress, read from the arguments; is one more than the laws look at. No condition. What the law EgressSame needs of plain data: bounds of a writer, keys, a payload with its number turned and turned back. No condition but the sizes'. -/
import Derived.Test.YtojedpahaifjgaaEsP
import Derived.Test.YtojedpahaifjgaaEsQ
namespace Go.Proofs.Ytojedpahaifjgaa
open Go.RowKit
def esW1 : Wr := ⟨true, 5, 0, 0, 100, 0, 0, true, 100, 0, 0⟩
def esW2 : Wr := ⟨true, 5, 0, 0, 100, 0, 0, true, 102, 0, 0⟩
theorem es_p1 : pushN 1 0 (-1) 0 true 100 Wr.zero 5 0 0 = (some (100, 0, 0), true, 0, esW1) := by kernel_rfl
theorem es_p2 : pushN 1 0 0 0 true 100 esW1 7 0 0 = (some (102, 0, 0), false, 0, esW2) := by kernel_rfl
theorem zero_ok (first : Int) (h : 0 ≤ first ∧ first ≤ 576460752303423488) : Wr.zero.Ok first := ⟨(fun h => by cases h), by decide, by decide, fun _ => rfl, h⟩
theorem plain_push (g gc gr gb : Nat) (src first many wanted goes layer : Int) (W : Wr) (pl i : Int) (mk : Bool) (ty sq st so : Int) (so_ : Option Addr) (no co : Nat) (xb : Bool) (pf : Int) (se : Option Addr) (ne ce : Nat) (sp : Option Addr) (np cp : Nat) (pd : Int) (hi : i ≤ 1152921504606846976) (hW : W.Ok first) (y n1 n2 : Int) (tu : Bool) (gl : Int) (W' : Wr) (hN : pushN many wanted goes layer true first W i st 0 = (some (y, n1, n2), tu, gl, W')) (w : World) (hgc : gc ≠ g) (h : HpB w g (.cells (egW gc (fnV 69) (fnV 68) src first W gr gb) 57)) (hC : HpB w gc (.cells (chC many wanted goes) 112)) :
  Calls Try.prog 11 #[.pointer (some ⟨g, 0, none⟩), .int .i64 layer, .agg (arC pl i mk ty sq st so (.slice so_ no co) xb pf (.slice se ne ce) (.slice sp np cp) pd)] w fun e w' => e = .returned (.tuple #[.agg (snC y mk ty (IntKind.u16.wrap y) n1 src (.slice none 0 0) xb pf (.slice se ne ce) (.slice sp np cp) pd tu), .bool true]) ∧ HpB w' g (.cells (egW gc (fnV 69) (fnV 68) src first W' gr gb) 57) ∧ HpB w' gc (.cells (chC many wanted gl) 112) ∧ Still [gc, g] w w' := by
 refine (push_any g gc gr gb _ _ src first many wanted goes layer true false 0 (fun _ _ _ => True) W pl i mk ty sq st so so_ no co xb pf se ne ce sp np cp pd hi hW w hgc h hC (fkC_enter 0 (by decide)) (fpC_enter 0 (by decide)) (fun y _ => (keyP_any _ y).mono fun _ _ ⟨k1, k2⟩ => ⟨k1, by rw [k2]; exact BW.refl _⟩) (fun y _ => (picP_any _ y).mono fun _ _ ⟨k1, k2⟩ => ⟨k1, by rw [k2]; exact BW.refl _⟩) (fun h => by cases h) (fun _ _ _ _ _ _ _ _ => trivial)).mono ?_
 rw [hN]
 rintro e w' ⟨hE, h1, h2, h3⟩
 refine ⟨?_, h1, h2, h3⟩
 rcases hE with ⟨k, -⟩ | ⟨y', m1, m2, v, k, he, hv, -⟩
 ·cases k
 ·cases k
  rw [he, hv rfl]
set_option maxRecDepth 100000 in
set_option maxHeartbeats 8000000 in
theorem es_alive (w : World) : Calls Try.prog 6 #[] w fun e w' => e = .returned (.bool true) ∧ BW w w' := by
 have cN := egnew_0 77 1 100 4 100 10 (by omega) (by omega) (by omega) (by omega) (by omega) w
 unfold limC at cN
 replace cN := Lib.hid cN
 obtain ⟨yA, hyA⟩ : ∃ y : Int, y = 100 := ⟨_, rfl⟩
 obtain ⟨yB, hyB⟩ : ∃ y : Int, y = 102 := ⟨_, rfl⟩
 obtain ⟨tA, htA⟩ : ∃ t : Bool, t = true := ⟨_, rfl⟩
 obtain ⟨tB, htB⟩ : ∃ t : Bool, t = false := ⟨_, rfl⟩
 obtain ⟨sA, hsA⟩ : ∃ y : Int, IntKind.u16.wrap yA = y := ⟨_, rfl⟩
 obtain ⟨sB, hsB⟩ : ∃ y : Int, IntKind.u16.wrap yB = y := ⟨_, rfl⟩
 have p1 : pushN 1 0 (-1) 0 true 100 Wr.zero 5 0 0 = (some (yA, 0, 0), tA, 0, esW1) := by rw [hyA, htA]; exact es_p1
 have p2 : pushN 1 0 0 0 true 100 esW1 7 0 0 = (some (yB, 0, 0), tB, 0, esW2) := by rw [hyB, htB]; exact es_p2
 replace hyA := Lib.hid hyA
 replace hyB := Lib.hid hyB
 replace htA := Lib.hid htA
 replace htB := Lib.hid htB
 replace hsA := Lib.hid hsA
 replace hsB := Lib.hid hsB
 replace p1 := Lib.hid p1
 replace p2 := Lib.hid p2
 go_enter Try.func6, Try.ntmps6
 go_wp2_with fail
 refine Calls.mono cN.out ?_
 rintro e w1 ⟨g, gc, gr, gb, rfl, hge, E1, hb⟩
 have Hp := Lib.hid E1.hp
 have Ch := Lib.hid E1.ch
 have B1 := Lib.hid hb
 have hgc := hp_ne E1.ch E1.hp (by decide)
 replace hge := Lib.hid hge
 replace hgc := Lib.hid hgc
 clear hb cN E1
 dsimp only
 have z0 := (hp_cell Hp.out 0).trans (show _ = some (.pointer (some ⟨gc, 0, none⟩)) from rfl)
 have cW := Lib.hid (want_any gc 1 (-1) (-1) 0 w1 Ch.out)
 go_wp2_with fail
 refine Calls.mono cW.out ?_
 rintro e w2 ⟨rfl, C2, T2⟩
 have H2 := Lib.hid (Hp.out.st T2 (by simpa using fun e => hgc.out e.symm))
 have B2 := Lib.hid (BW.stP B1.out T2 (fun k hk => by obtain rfl : k = gc := (by simpa using hk); exact hge.out.2.1))
 have hW : wantN 1 (-1) (-1) 0 = (0, 0, -1) := by decide
 rw [hW] at C2 ⊢
 replace C2 := Lib.hid C2
 clear T2 cW Hp Ch B1 hW z0
 dsimp only
 have cP := plain_push g gc gr gb 77 100 1 0 (-1) 0 Wr.zero 0 5 false 0 5 0 1 none 0 0 false 0 none 0 0 none 0 0 0 (by omega) (zero_ok 100 (by decide)) yA 0 0 tA 0 esW1 p1.out w2 hgc.out H2.out C2.out
 unfold arC snC at cP
 rw [hsA.out] at cP
 replace cP := Lib.hid cP
 go_wp2_with fail
 refine Calls.mono cP.out ?_
 rintro e w3 ⟨rfl, H3, C3, T3⟩
 have B3 := Lib.hid (BW.stP B2.out T3 (fun k hk => by rcases (by simpa using hk : k = gc ∨ k = g) with rfl | rfl; exact hge.out.2.1; exact hge.out.1))
 replace H3 := Lib.hid H3
 replace C3 := Lib.hid C3
 clear T3 cP B2 H2 C2
 dsimp only
 have BC : BW w3 (w3.alloc (.cells #[.int .i64 yA, .bool false, .int .u8 0, .int .u16 sA, .int .u32 0, .int .u32 77, .slice none 0 0, .bool false, .int .u16 0, .slice none 0 0, .slice none 0 0, .int .u8 0, .bool tA] 60)) := (BW.refl _).alloc
 have X4 := Lib.hid (HpB.new w3 (.cells #[.int .i64 yA, .bool false, .int .u8 0, .int .u16 sA, .int .u32 0, .int .u32 77, .slice none 0 0, .bool false, .int .u16 0, .slice none 0 0, .slice none 0 0, .int .u8 0, .bool tA] 60))
 have H4 := Lib.hid (H3.out.bw BC)
 have C4 := Lib.hid (C3.out.bw BC)
 have B4 := Lib.hid (B3.out.trans BC)
 clear H3 C3 B3
 replace BC := Lib.hid BC
 go_upto_region 6 with (fail)
 generalize (w3.alloc (.cells #[.int .i64 yA, .bool false, .int .u8 0, .int .u16 sA, .int .u32 0, .int .u32 77, .slice none 0 0, .bool false, .int .u16 0, .slice none 0 0, .slice none 0 0, .int .u8 0, .bool tA] 60)) = w4 at *
 generalize w3.heap.size = gs at *
 have cP := plain_push g gc gr gb 77 100 1 0 0 0 esW1 0 7 false 0 7 0 1 none 0 0 false 0 none 0 0 none 0 0 0 (by omega) ⟨fun _ => by decide, by decide, by decide, (fun h => by cases h), by decide⟩ yB 0 0 tB 0 esW2 p2.out w4 hgc.out H4.out C4.out
 unfold arC snC at cP
 rw [hsB.out] at cP
 have hXE := hp_ne X4.out H4.out (by decide)
 have hXC := hp_ne X4.out C4.out (by decide)
 replace cP := Lib.hid cP
 replace hXE := Lib.hid hXE
 replace hXC := Lib.hid hXC
 go_wp2_with fail
 refine Calls.mono cP.out ?_
 rintro e w5 ⟨rfl, H5, C5, T5⟩
 have B5 := Lib.hid (BW.stP B4.out T5 (fun k hk => by rcases (by simpa using hk : k = gc ∨ k = g) with rfl | rfl; exact hge.out.2.1; exact hge.out.1))
 have X5 := Lib.hid (X4.out.st T5 (by
  have h1 := hXC.out
  have h2 := hXE.out
  simp [h1, h2]))
 clear T5 cP B4 H4 C4 X4 H5 C5
 dsimp only
 have BC : BW w5 (w5.alloc (.cells #[.int .i64 yB, .bool false, .int .u8 0, .int .u16 sB, .int .u32 0, .int .u32 77, .slice none 0 0, .bool false, .int .u16 0, .slice none 0 0, .slice none 0 0, .int .u8 0, .bool tB] 60)) := (BW.refl _).alloc
 have Y6 := Lib.hid (HpB.new w5 (.cells #[.int .i64 yB, .bool false, .int .u8 0, .int .u16 sB, .int .u32 0, .int .u32 77, .slice none 0 0, .bool false, .int .u16 0, .slice none 0 0, .slice none 0 0, .int .u8 0, .bool tB] 60))
 have B6 := Lib.hid (B5.out.trans BC)
 have X6 := Lib.hid (X5.out.bw BC)
 clear B5 X5
 replace BC := Lib.hid BC
 go_upto_region 7 with (fail)
 generalize (w5.alloc (.cells #[.int .i64 yB, .bool false, .int .u8 0, .int .u16 sB, .int .u32 0, .int .u32 77, .slice none 0 0, .bool false, .int .u16 0, .slice none 0 0, .slice none 0 0, .int .u8 0, .bool tB] 60)) = w6 at *
 generalize w5.heap.size = gt at *
 have e1 : yA = 100 := hyA.out
 have e2 : yB = 102 := hyB.out
 subst e1 e2
 have e3 : sA = 100 := by rw [← hsA.out]; decide
 subst e3
 have z0 := (hp_cell X6.out 0).trans (show _ = some (.int .i64 100) from rfl)
 have z3 := (hp_cell X6.out 3).trans (show _ = some (.int .u16 100) from rfl)
 have z5 := (hp_cell X6.out 5).trans (show _ = some (.int .u32 77) from rfl)
 have y0 := (hp_cell Y6.out 0).trans (show _ = some (.int .i64 102) from rfl)
 clear hyA hyB hsA hsB p1 p2
 go_wp2_with fail
 go_ret
 exact ⟨rfl, B6.out⟩
end Go.Proofs.Ytojedpahaifjgaa

namespace Go.Proofs.Ytojedpahaifjgaa
open Go.RowKit
def opA (k ly pl ix : Int) (mk : Bool) (ty sq st so : Int) (so_ : Option Addr) (no co : Nat) (xb : Bool) (pf : Int) (se : Option Addr) (ne ce : Nat) (sp : Option Addr) (np cp : Nat) (pd sz : Int) (sl : Option Addr) (nl cl_ : Nat) : Array Value :=
 #[.int .u8 k, .int .i64 ly, .int .i64 pl, .int .i64 ix, .bool mk, .int .u8 ty, .int .u16 sq, .int .u32 st, .int .u32 so, .slice so_ no co, .bool xb, .int .u16 pf, .slice se ne ce, .slice sp np cp, .int .u8 pd, .int .u8 sz, .slice sl nl cl_]
theorem rd_sl {w : World} {e : Ty} {c : List Value} (h : Rd w (.loop e) c) : ∃ (sa : Option Addr) (n cp : Nat), c = [.slice sa n cp] ∧ Rd w (.loop e) [.slice sa n cp] := by
 have h' := h
 rcases h with rfl | ⟨x, ln, cp, rfl, -⟩
 ·exact ⟨_, _, _, rfl, h'⟩
 ·exact ⟨_, _, _, rfl, h'⟩
theorem rd_sb {w : World} {sa : Option Addr} {n cp : Nat} (h : Rd w (.loop (.label 4)) [.slice sa n cp]) : ∃ l, SB w (.slice sa n cp) n l := by
 obtain ⟨l, hv⟩ := SB_of_Rd h
 obtain ⟨_, _, he, -⟩ := hv.len
 cases he
 exact ⟨l, hv⟩
abbrev egTy : Ty := .scope (.seq (.label 4) (.seq (.label 3) (.seq (.scope (.seq (.label 3) (.seq (.label 3) (.seq (.scope (.seq .ret (.seq (.label 4) (.seq (.label 5) (.seq (.label 6) (.seq (.label 6) (.seq (.loop (.label 6)) (.seq .ret (.seq (.label 5) (.seq (.loop (.label 4)) (.seq (.loop (.label 4)) (.seq (.label 4) .skip)))))))))))) .skip)))) (.seq (.label 4) (.seq (.loop (.scope (.seq (.label 5) (.seq (.label 5) .skip)))) .skip)))))
theorem egop_at {w : World} {a : Option Addr} {len cap : Nat} (h : Rd w (.loop egTy) [.slice a len cap]) :
  len ≤ cap ∧ cap ≤ maxLen ∧ (len = 0 ∨ ∃ b o, a = some ⟨b, o, none⟩ ∧ b < w.heap.size ∧ ∀ i, i < len → ∃ (k ly pl ix : Int) (mk : Bool) (ty sq st so : Int) (so_ : Option Addr) (no co : Nat) (xb : Bool) (pf : Int) (se : Option Addr) (ne ce : Nat) (sp : Option Addr) (np cp : Nat) (pd sz : Int) (sl : Option Addr) (nl cl_ : Nat) (lp le : List Nat), (∀ j, j < 17 → w.cell? ⟨b, o + i * 17 + j, none⟩ = (opA k ly pl ix mk ty sq st so so_ no co xb pf se ne ce sp np cp pd sz sl nl cl_)[j]?) ∧ SB w (.slice sp np cp) np lp ∧ SB w (.slice se ne ce) ne le ∧ (0 ≤ k ∧ k ≤ 255) ∧ (-9223372036854775808 ≤ ix ∧ ix ≤ 9223372036854775807) ∧ (-9223372036854775808 ≤ ly ∧ ly ≤ 9223372036854775807) ∧ (no ≤ co ∧ co ≤ maxLen) ∧ (nl ≤ cl_ ∧ cl_ ≤ maxLen) ∧ (0 ≤ st ∧ st ≤ 4294967295) ∧ (0 ≤ sz ∧ sz ≤ 255) ∧ Rd w (.loop (.scope (.seq (.label 5) (.seq (.label 5) .skip)))) [.slice sl nl cl_]) := by
 obtain ⟨h1, h2, h3⟩ := Rd.slice_at h (by decide)
 refine ⟨h1, h2, ?_⟩
 rcases h3 with ⟨_, h, _⟩ | ⟨_, h, _⟩ | ⟨b, o, rfl, hb, hc, hi⟩
 ·exact .inl h
 ·exact .inl h
 ·right
  refine ⟨b, o, rfl, hb, fun i hil => ?_⟩
  obtain ⟨cs, hl, hr, hx⟩ := hi i (by omega)
  obtain ⟨c0, r0, rfl, ⟨k, rfl, hk⟩, c1, r1, rfl, ⟨ly, rfl, hly⟩, cA, r2, rfl, hA, c3, r3, rfl, ⟨sz, rfl, hsz⟩, c4, r4, rfl, hL, h5⟩ := hr
  have h5' : r4 = [] := h5
  subst h5'
  obtain ⟨a0, s0, rfl, ⟨pl, rfl, hpl⟩, a1, s1, rfl, ⟨ix, rfl, hix⟩, aP, s2, rfl, hP, h6⟩ := hA
  have h6' : s2 = [] := h6
  subst h6'
  obtain ⟨p0, t0, rfl, ⟨mk, rfl⟩, p1, t1, rfl, ⟨ty, rfl, hty⟩, p2, t2, rfl, ⟨sq, rfl, hsq⟩, p3, t3, rfl, ⟨st, rfl, hst⟩, p4, t4, rfl, ⟨so, rfl, hso⟩, p5, t5, rfl, hO, p6, t6, rfl, ⟨xb, rfl⟩, p7, t7, rfl, ⟨pf, rfl, hpf⟩, p8, t8, rfl, hE, p9, t9, rfl, hY, p10, t10, rfl, ⟨pd, rfl, hpd⟩, h7⟩ := hP
  have h7' : t10 = [] := h7
  subst h7'
  obtain ⟨so_, no, co, rfl, hO⟩ := rd_sl hO
  obtain ⟨se, ne, ce, rfl, hE⟩ := rd_sl hE
  obtain ⟨sp, np, cp, rfl, hY⟩ := rd_sl hY
  obtain ⟨sl, nl, cl_, rfl, hL⟩ := rd_sl hL
  obtain ⟨lp, hlp⟩ := rd_sb hY
  obtain ⟨le, hle⟩ := rd_sb hE
  obtain ⟨o1, o2, -⟩ := Rd.slice_at hO (by decide)
  obtain ⟨l1, l2, -⟩ := Rd.slice_at hL (by decide)
  exact ⟨k, ly, pl, ix, mk, ty, sq, st, so, so_, no, co, xb, pf, se, ne, ce, sp, np, cp, pd, sz, sl, nl, cl_, lp, le, fun j hj => (hx j hj).trans (by unfold opA; rw [List.getElem?_toArray]; rfl), hlp, hle, bounds_u8 hk, bounds_i64 hix, bounds_i64 hly, ⟨o1, o2⟩, ⟨l1, l2⟩, bounds_u32 hst, bounds_u8 hsz, hL⟩
def greatN (no ne np nl : Nat) (ix : Int) : Bool := decide (60 < (no : Int)) || (decide (1500 < (ne : Int)) || (decide (1500 < (np : Int)) || (decide (40 < (nl : Int)) || decide (1099511627776 < ix))))
set_option maxRecDepth 100000 in
set_option maxHeartbeats 8000000 in
theorem great_any (k ly pl ix : Int) (mk : Bool) (ty sq st so : Int) (so_ : Option Addr) (no co : Nat) (xb : Bool) (pf : Int) (se : Option Addr) (ne ce : Nat) (sp : Option Addr) (np cp : Nat) (pd sz : Int) (sl : Option Addr) (nl cl_ : Nat) (w : World) :
  Calls Try.prog 8 #[.agg (opA k ly pl ix mk ty sq st so so_ no co xb pf se ne ce sp np cp pd sz sl nl cl_)] w fun e w' => e = .returned (.bool (greatN no ne np nl ix)) ∧ BW w w' := by
 have BA : BW w (w.alloc (.cells (opA k ly pl ix mk ty sq st so so_ no co xb pf se ne ce sp np cp pd sz sl nl cl_) 41)) := (BW.refl w).alloc
 have X := HpB.new w (.cells (opA k ly pl ix mk ty sq st so so_ no co xb pf se ne ce sp np cp pd sz sl nl cl_) 41)
 obtain ⟨w1, hw1⟩ : ∃ w1, w1 = w.alloc (.cells (opA k ly pl ix mk ty sq st so so_ no co xb pf se ne ce sp np cp pd sz sl nl cl_) 41) := ⟨_, rfl⟩
 rw [← hw1] at BA X
 have z9 := (hp_cell X 9).trans (show _ = some (.slice so_ no co) from rfl)
 have z12 := (hp_cell X 12).trans (show _ = some (.slice se ne ce) from rfl)
 have z13 := (hp_cell X 13).trans (show _ = some (.slice sp np cp) from rfl)
 have z16 := (hp_cell X 16).trans (show _ = some (.slice sl nl cl_) from rfl)
 have z3 := (hp_cell X 3).trans (show _ = some (.int .i64 ix) from rfl)
 clear X
 have hg : greatN no ne np nl ix = (decide (60 < (no : Int)) || (decide (1500 < (ne : Int)) || (decide (1500 < (np : Int)) || (decide (40 < (nl : Int)) || decide (1099511627776 < ix))))) := rfl
 generalize greatN no ne np nl ix = G at *
 unfold opA at hw1 ⊢
 replace BA := Lib.hid BA
 cases h1 : decide (60 < (no : Int)) with
 | true =>
  rw [h1] at hg
  replace hg := Lib.hid hg
  go_enter Try.func8, Try.ntmps8
  go_upto_region 1 with (fail)
  rw [← hw1]
  clear hw1
  go_wp2_with fail
  go_ret
  exact ⟨by rw [hg.out]; rfl, BA.out⟩
 | false =>
  cases h2 : decide (1500 < (ne : Int)) with
  | true =>
   rw [h1, h2] at hg
   replace hg := Lib.hid hg
   go_enter Try.func8, Try.ntmps8
   go_upto_region 1 with (fail)
   rw [← hw1]
   clear hw1
   go_wp2_with fail
   go_ret
   exact ⟨by rw [hg.out]; rfl, BA.out⟩
  | false =>
   cases h3 : decide (1500 < (np : Int)) with
   | true =>
    rw [h1, h2, h3] at hg
    replace hg := Lib.hid hg
    go_enter Try.func8, Try.ntmps8
    go_upto_region 1 with (fail)
    rw [← hw1]
    clear hw1
    go_wp2_with fail
    go_ret
    exact ⟨by rw [hg.out]; rfl, BA.out⟩
   | false =>
    cases h4 : decide (40 < (nl : Int)) with
    | true =>
     rw [h1, h2, h3, h4] at hg
     replace hg := Lib.hid hg
     go_enter Try.func8, Try.ntmps8
     go_upto_region 1 with (fail)
     rw [← hw1]
     clear hw1
     go_wp2_with fail
     go_ret
     exact ⟨by rw [hg.out]; rfl, BA.out⟩
    | false =>
     rw [h1, h2, h3, h4] at hg
     generalize hq : decide (1099511627776 < ix) = q at *
     replace hg := Lib.hid hg
     go_enter Try.func8, Try.ntmps8
     go_upto_region 1 with (fail)
     rw [← hw1]
     clear hw1
     go_wp2_with fail
     go_ret
     exact ⟨by rw [hg.out]; rfl, BA.out⟩
theorem greatN_no {no ne np nl : Nat} {ix : Int} (h : greatN no ne np nl ix = false) : no ≤ 60 ∧ ne ≤ 1500 ∧ np ≤ 1500 ∧ nl ≤ 40 ∧ ix ≤ 1099511627776 := by
 unfold greatN at h
 simp only [Bool.or_eq_false_iff, decide_eq_false_iff_not] at h
 omega
end Go.Proofs.Ytojedpahaifjgaa

namespace Go.Proofs.Ytojedpahaifjgaa
open Go.RowKit
def Wr.OkK (W : Wr) (k : Nat) : Prop := (W.fol = true → 0 ≤ W.a0) ∧ (0 ≤ W.b0 ∧ W.b0 ≤ (k : Int) * 2199023255552) ∧ (0 ≤ W.l0 ∧ W.l0 ≤ (k : Int) * 2199023255552) ∧ (W.out = false → W.l0 = 0)
theorem okK_zero : Hid (Wr.zero.OkK 0) := Lib.hid ⟨(fun h => by cases h), by decide, by decide, fun _ => rfl⟩
theorem okK_up {W : Wr} {k : Nat} (h : W.OkK k) : W.OkK (k + 1) := by
 obtain ⟨h1, h2, h3, h4⟩ := h
 exact ⟨h1, ⟨h2.1, by omega⟩, ⟨h3.1, by omega⟩, h4⟩
theorem okK_map {W : Wr} {k : Nat} (h1 : W.fol = true → 0 ≤ W.a0) (h2 : 0 ≤ W.b0 ∧ W.b0 ≤ (k : Int) * 2199023255552 + 1) (h3 : 0 ≤ W.l0 ∧ W.l0 ≤ (k : Int) * 2199023255552) (h4 : W.out = false → W.l0 = 0) (i s p : Int) (hi : i ≤ 1099511627776) : (W.map i s p).2.OkK (k + 1) := by
 unfold Wr.map mapN Wr.OkK
 split
 ·exact ⟨h1, ⟨h2.1, by push_cast; omega⟩, ⟨h3.1, by push_cast; omega⟩, h4⟩
 ·rename_i hn
  have hf : W.fol = true := by cases hq : W.fol with
   | true => rfl
   | false => exact absurd (.inl hq) hn
  have ha := h1 hf
  have hi0 : ¬ i < 0 := fun e => hn (.inr (.inl e))
  have hia : ¬ i < W.a0 := fun e => hn (.inr (.inr e))
  split
  ·exact ⟨h1, ⟨h2.1, by push_cast; omega⟩, ⟨by show 0 ≤ W.b0 + i - W.a0; omega, by show W.b0 + i - W.a0 ≤ _; push_cast; omega⟩, fun e => by cases e⟩
  ·exact ⟨h1, ⟨h2.1, by push_cast; omega⟩, ⟨h3.1, by push_cast; omega⟩, h4⟩
theorem goes_w (gc : Nat) (many wanted goes : Int) (w : World) (h : HpB w gc (.cells (chC many wanted goes) 112)) :
  Calls Try.prog 10 #[.pointer (some ⟨gc, 0, none⟩)] w fun e w' => e = .returned (.int .i64 goes) ∧ w = w' :=
 (goes_any gc many wanted goes w h).mono fun _ _ ⟨h1, h2⟩ => ⟨h1, h2.symm⟩
theorem strOf_ne_self' (s : ByteArray) : (s.toList != s.toList) = false := by simp
theorem OwnB.stN {w w' : World} {base B : Nat} {v : Value} {l : List Int} {S : List Nat} (h : OwnB w base v l) (hs : Still S w w') (hS : ∀ k ∈ S, k < B ∨ ∃ cs t f, w.heap[k]? = some (.cells cs t f) ∧ t ≠ 5) (hB : B ≤ base := by exact Nat.le_refl _) : OwnB w' base v l := by
 obtain ⟨h1, h2 | ⟨g, cap, cur, rfl, hb, hh, r⟩⟩ := h
 ·exact ⟨h1, .inl h2⟩
 ·refine ⟨h1, .inr ⟨g, cap, cur, rfl, hb, ?_, r⟩⟩
  rw [hs.block g (Array.getElem?_eq_some_iff.1 hh).1 (fun hm => ?_)]
  ·exact hh
  ·rcases hS g hm with k | ⟨cs, t, f, k1, k2⟩
   ·omega
   ·rw [hh] at k1
    cases k1
    exact k2 rfl
def PayAt (w0 w : World) (sa : Option Addr) (n cp : Nat) (l : List Int) : Prop :=
 SlB w sa n cp l ∧ ∀ b o, sa = some ⟨b, o, none⟩ → 0 < n → b < w0.heap.size ∨ ∃ cs f, w.heap[b]? = some (.cells cs 5 f)
theorem PayAt.bw {w0 w w' : World} {sa : Option Addr} {n cp : Nat} {l : List Int} (h : PayAt w0 w sa n cp l) (hb : BW w w') : PayAt w0 w' sa n cp l :=
 ⟨h.1.below hb, fun b o e h0 => (h.2 b o e h0).imp id fun ⟨cs, f, k⟩ => ⟨cs, f, hb.heap k⟩⟩
theorem PayAt.stN {w0 w w' : World} {sa : Option Addr} {n cp : Nat} {l : List Int} {S : List Nat} (h : PayAt w0 w sa n cp l) (hs : Still S w w') (hS : ∀ k ∈ S, w0.heap.size ≤ k ∧ ∃ cs t f, w.heap[k]? = some (.cells cs t f) ∧ t ≠ 5) : PayAt w0 w' sa n cp l := by
 obtain ⟨⟨h1, h2, h3, h4, h5⟩, hT⟩ := h
 have hn : ∀ b o, sa = some ⟨b, o, none⟩ → 0 < n → b ∉ S := fun b o e h0 hm => by
  obtain ⟨k0, cs', t, f', k1, k2⟩ := hS b hm
  rcases hT b o e h0 with k | ⟨cs, f, k⟩
  ·omega
  ·rw [k] at k1
   cases k1
   exact k2 rfl
 refine ⟨⟨h1, h2, h3, h4, ?_⟩, fun b o e h0 => ?_⟩
 ·rcases h5 with h5 | ⟨b, o, hsa, hlt, hc⟩
  ·exact .inl h5
  ·exact .inr ⟨b, o, hsa, Nat.lt_of_lt_of_le hlt hs.size, fun i hi => hs.cellN (hc i hi) (hn b o hsa (by omega))⟩
 ·rcases hT b o e h0 with k | ⟨cs, f, k⟩
  ·exact .inl k
  ·exact .inr ⟨cs, f, by rw [hs.block b (Array.getElem?_eq_some_iff.1 k).1 (hn b o e h0)]; exact k⟩
theorem pic_ok {many wanted goes ly first : Int} {key : Bool} {W : Wr} {i s p : Int} {r : Option (Int × Int × Int)} {tu : Bool} {gl : Int} {WN : Wr} (hN : pushN many wanted goes ly key first W i s p = (r, tu, gl, WN)) {y n1 n2 : Int} (hr : r = some (y, n1, n2)) : 0 ≤ n2 := by
 subst hr
 unfold pushN at hN
 split at hN
 ·simp only [Prod.mk.injEq] at hN
  cases hN.1
 ·simp only [Prod.mk.injEq] at hN
  exact (map_pic rfl hN.1).1
def PayL (c : Nat) (lp : List Nat) (sp : Option Addr) (np cp : Nat) (n2 : Int) (sv : Option Addr) (nv cv : Nat) (L' : List Int) : Prop :=
 (hasC c lp = false ∧ L' = lI lp ∧ Value.slice sv nv cv = .slice sp np cp) ∨ (hasC c lp = true ∧ 0 ≤ n2 ∧ L' = turnN (lI lp) n2 (vWide (lI lp)))
theorem pay_form {c : Nat} {lp : List Nat} {sp : Option Addr} {np cp base : Nat} {n2 : Int} {w w6 : World} {v : Value} {has : Bool} (hby : ByL lp) (SP : SB w (.slice sp np cp) np lp) (B : BW w w6) (hh : hasC c lp = has) (hn2 : 0 ≤ n2) (hv0 : has = false → v = .slice sp np cp) (hv1 : has = true → TVq base (lI lp) (vWide (lI lp)) n2 w6 v) :
  ∃ sv nv cv L', PayAt w w6 sv nv cv L' ∧ v = .slice sv nv cv ∧ PayL c lp sp np cp n2 sv nv cv L' := by
 cases has with
 | false =>
  refine ⟨sp, np, cp, lI lp, ⟨(SlB_of_SB SP).below B, fun b o e h0 => ?_⟩, hv0 rfl, .inl ⟨hh, rfl, rfl⟩⟩
  obtain ⟨b', o', c', hs, -, -, hlt, -⟩ := SP.form h0
  cases hs
  cases e
  exact .inl hlt
 | true =>
  have hO : OwnB w6 base v (turnN (lI lp) n2 (vWide (lI lp))) := hv1 rfl
  obtain ⟨sv, cv, rfl, hs⟩ := hO.slB (turnN_mem (lI_by hby) n2 _)
  refine ⟨sv, _, cv, _, ⟨hs, fun b o e h0 => ?_⟩, rfl, .inr ⟨hh, hn2, rfl⟩⟩
  obtain ⟨-, ⟨h2, h3⟩ | ⟨g, cap, cur, hv, hb, hh, r⟩⟩ := hO
  ·omega
  ·subst e
   cases hv
   exact .inr ⟨cur, _, hh⟩
end Go.Proofs.Ytojedpahaifjgaa
