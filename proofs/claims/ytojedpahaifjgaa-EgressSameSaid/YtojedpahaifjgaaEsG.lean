/- Ops on an egress, read from the arguments; is one more than the laws look at. No condition. -/
import Derived.Test.YtojedpahaifjgaaEsX
namespace Go.Proofs.Ytojedpahaifjgaa
open Go.RowKit
def opA (k ly pl ix : Int) (mk : Bool) (ty sq st so : Int) (so_ : Option Addr) (no co : Nat) (xb : Bool) (pf : Int) (se : Option Addr) (ne ce : Nat) (sp : Option Addr) (np cp : Nat) (pd sz : Int) (sl : Option Addr) (nl cl_ : Nat) : Array Value :=
 #[.int .u8 k, .int .i64 ly, .int .i64 pl, .int .i64 ix, .bool mk, .int .u8 ty, .int .u16 sq, .int .u32 st, .int .u32 so, .slice so_ no co, .bool xb, .int .u16 pf, .slice se ne ce, .slice sp np cp, .int .u8 pd, .int .u8 sz, .slice sl nl cl_]
theorem rd_sl {w : World} {e : Ty} {c : List Value} (h : Rd w (.loop e) c) : ∃ (sa : Option Addr) (n cp : Nat), c = [.slice sa n cp] ∧ Rd w (.loop e) [.slice sa n cp] := by
 have h' := h
 rcases h with rfl | ⟨x, ln, cp, rfl, -⟩
 ·exact ⟨_, _, _, rfl, h'⟩
 ·exact ⟨_, _, _, rfl, h'⟩
theorem rd_sb {w : World} {sa : Option Addr} {n cp : Nat} (h : Rd w (.loop (.label 4)) [.slice sa n cp]) : ∃ l, SB w (.slice sa n cp) n l := by
 obtain ⟨l, hv⟩ := SB_of_Rd h
 obtain ⟨_, _, he, -⟩ := hv.len
 cases he
 exact ⟨l, hv⟩
abbrev egTy : Ty := .scope (.seq (.label 4) (.seq (.label 3) (.seq (.scope (.seq (.label 3) (.seq (.label 3) (.seq (.scope (.seq .ret (.seq (.label 4) (.seq (.label 5) (.seq (.label 6) (.seq (.label 6) (.seq (.loop (.label 6)) (.seq .ret (.seq (.label 5) (.seq (.loop (.label 4)) (.seq (.loop (.label 4)) (.seq (.label 4) .skip)))))))))))) .skip)))) (.seq (.label 4) (.seq (.loop (.scope (.seq (.label 5) (.seq (.label 5) .skip)))) .skip)))))
theorem egop_at {w : World} {a : Option Addr} {len cap : Nat} (h : Rd w (.loop egTy) [.slice a len cap]) :
  len ≤ cap ∧ cap ≤ maxLen ∧ (len = 0 ∨ ∃ b o, a = some ⟨b, o, none⟩ ∧ b < w.heap.size ∧ ∀ i, i < len → ∃ (k ly pl ix : Int) (mk : Bool) (ty sq st so : Int) (so_ : Option Addr) (no co : Nat) (xb : Bool) (pf : Int) (se : Option Addr) (ne ce : Nat) (sp : Option Addr) (np cp : Nat) (pd sz : Int) (sl : Option Addr) (nl cl_ : Nat) (lp le : List Nat), (∀ j, j < 17 → w.cell? ⟨b, o + i * 17 + j, none⟩ = (opA k ly pl ix mk ty sq st so so_ no co xb pf se ne ce sp np cp pd sz sl nl cl_)[j]?) ∧ SB w (.slice sp np cp) np lp ∧ SB w (.slice se ne ce) ne le ∧ (0 ≤ k ∧ k ≤ 255) ∧ (-9223372036854775808 ≤ ix ∧ ix ≤ 9223372036854775807) ∧ (-9223372036854775808 ≤ ly ∧ ly ≤ 9223372036854775807) ∧ (no ≤ co ∧ co ≤ maxLen) ∧ (nl ≤ cl_ ∧ cl_ ≤ maxLen) ∧ (0 ≤ st ∧ st ≤ 4294967295) ∧ (0 ≤ sz ∧ sz ≤ 255) ∧ Rd w (.loop (.scope (.seq (.label 5) (.seq (.label 5) .skip)))) [.slice sl nl cl_]) := by
 obtain ⟨h1, h2, h3⟩ := Rd.slice_at h (by decide)
 refine ⟨h1, h2, ?_⟩
 rcases h3 with ⟨_, h, _⟩ | ⟨_, h, _⟩ | ⟨b, o, rfl, hb, hc, hi⟩
 ·exact .inl h
 ·exact .inl h
 ·right
  refine ⟨b, o, rfl, hb, fun i hil => ?_⟩
  obtain ⟨cs, hl, hr, hx⟩ := hi i (by omega)
  obtain ⟨c0, r0, rfl, ⟨k, rfl, hk⟩, c1, r1, rfl, ⟨ly, rfl, hly⟩, cA, r2, rfl, hA, c3, r3, rfl, ⟨sz, rfl, hsz⟩, c4, r4, rfl, hL, h5⟩ := hr
  have h5' : r4 = [] := h5
  subst h5'
  obtain ⟨a0, s0, rfl, ⟨pl, rfl, hpl⟩, a1, s1, rfl, ⟨ix, rfl, hix⟩, aP, s2, rfl, hP, h6⟩ := hA
  have h6' : s2 = [] := h6
  subst h6'
  obtain ⟨p0, t0, rfl, ⟨mk, rfl⟩, p1, t1, rfl, ⟨ty, rfl, hty⟩, p2, t2, rfl, ⟨sq, rfl, hsq⟩, p3, t3, rfl, ⟨st, rfl, hst⟩, p4, t4, rfl, ⟨so, rfl, hso⟩, p5, t5, rfl, hO, p6, t6, rfl, ⟨xb, rfl⟩, p7, t7, rfl, ⟨pf, rfl, hpf⟩, p8, t8, rfl, hE, p9, t9, rfl, hY, p10, t10, rfl, ⟨pd, rfl, hpd⟩, h7⟩ := hP
  have h7' : t10 = [] := h7
  subst h7'
  obtain ⟨so_, no, co, rfl, hO⟩ := rd_sl hO
  obtain ⟨se, ne, ce, rfl, hE⟩ := rd_sl hE
  obtain ⟨sp, np, cp, rfl, hY⟩ := rd_sl hY
  obtain ⟨sl, nl, cl_, rfl, hL⟩ := rd_sl hL
  obtain ⟨lp, hlp⟩ := rd_sb hY
  obtain ⟨le, hle⟩ := rd_sb hE
  obtain ⟨o1, o2, -⟩ := Rd.slice_at hO (by decide)
  obtain ⟨l1, l2, -⟩ := Rd.slice_at hL (by decide)
  exact ⟨k, ly, pl, ix, mk, ty, sq, st, so, so_, no, co, xb, pf, se, ne, ce, sp, np, cp, pd, sz, sl, nl, cl_, lp, le, fun j hj => (hx j hj).trans (by unfold opA; rw [List.getElem?_toArray]; rfl), hlp, hle, bounds_u8 hk, bounds_i64 hix, bounds_i64 hly, ⟨o1, o2⟩, ⟨l1, l2⟩, bounds_u32 hst, bounds_u8 hsz, hL⟩
def greatN (no ne np nl : Nat) (ix : Int) : Bool := decide (60 < (no : Int)) || (decide (1500 < (ne : Int)) || (decide (1500 < (np : Int)) || (decide (40 < (nl : Int)) || decide (1099511627776 < ix))))
set_option maxRecDepth 100000 in
set_option maxHeartbeats 8000000 in
theorem great_any (k ly pl ix : Int) (mk : Bool) (ty sq st so : Int) (so_ : Option Addr) (no co : Nat) (xb : Bool) (pf : Int) (se : Option Addr) (ne ce : Nat) (sp : Option Addr) (np cp : Nat) (pd sz : Int) (sl : Option Addr) (nl cl_ : Nat) (w : World) :
  Calls Try.prog 8 #[.agg (opA k ly pl ix mk ty sq st so so_ no co xb pf se ne ce sp np cp pd sz sl nl cl_)] w fun e w' => e = .returned (.bool (greatN no ne np nl ix)) ∧ BW w w' := by
 have BA : BW w (w.alloc (.cells (opA k ly pl ix mk ty sq st so so_ no co xb pf se ne ce sp np cp pd sz sl nl cl_) 41)) := (BW.refl w).alloc
 have X := HpB.new w (.cells (opA k ly pl ix mk ty sq st so so_ no co xb pf se ne ce sp np cp pd sz sl nl cl_) 41)
 obtain ⟨w1, hw1⟩ : ∃ w1, w1 = w.alloc (.cells (opA k ly pl ix mk ty sq st so so_ no co xb pf se ne ce sp np cp pd sz sl nl cl_) 41) := ⟨_, rfl⟩
 rw [← hw1] at BA X
 have z9 := (hp_cell X 9).trans (show _ = some (.slice so_ no co) from rfl)
 have z12 := (hp_cell X 12).trans (show _ = some (.slice se ne ce) from rfl)
 have z13 := (hp_cell X 13).trans (show _ = some (.slice sp np cp) from rfl)
 have z16 := (hp_cell X 16).trans (show _ = some (.slice sl nl cl_) from rfl)
 have z3 := (hp_cell X 3).trans (show _ = some (.int .i64 ix) from rfl)
 clear X
 have hg : greatN no ne np nl ix = (decide (60 < (no : Int)) || (decide (1500 < (ne : Int)) || (decide (1500 < (np : Int)) || (decide (40 < (nl : Int)) || decide (1099511627776 < ix))))) := rfl
 generalize greatN no ne np nl ix = G at *
 unfold opA at hw1 ⊢
 replace BA := Lib.hid BA
 cases h1 : decide (60 < (no : Int)) with
 | true =>
  rw [h1] at hg
  replace hg := Lib.hid hg
  go_enter Try.func8, Try.ntmps8
  go_upto_region 1 with (fail)
  rw [← hw1]
  clear hw1
  go_wp2_with fail
  go_ret
  exact ⟨by rw [hg.out]; rfl, BA.out⟩
 | false =>
  cases h2 : decide (1500 < (ne : Int)) with
  | true =>
   rw [h1, h2] at hg
   replace hg := Lib.hid hg
   go_enter Try.func8, Try.ntmps8
   go_upto_region 1 with (fail)
   rw [← hw1]
   clear hw1
   go_wp2_with fail
   go_ret
   exact ⟨by rw [hg.out]; rfl, BA.out⟩
  | false =>
   cases h3 : decide (1500 < (np : Int)) with
   | true =>
    rw [h1, h2, h3] at hg
    replace hg := Lib.hid hg
    go_enter Try.func8, Try.ntmps8
    go_upto_region 1 with (fail)
    rw [← hw1]
    clear hw1
    go_wp2_with fail
    go_ret
    exact ⟨by rw [hg.out]; rfl, BA.out⟩
   | false =>
    cases h4 : decide (40 < (nl : Int)) with
    | true =>
     rw [h1, h2, h3, h4] at hg
     replace hg := Lib.hid hg
     go_enter Try.func8, Try.ntmps8
     go_upto_region 1 with (fail)
     rw [← hw1]
     clear hw1
     go_wp2_with fail
     go_ret
     exact ⟨by rw [hg.out]; rfl, BA.out⟩
    | false =>
     rw [h1, h2, h3, h4] at hg
     generalize hq : decide (1099511627776 < ix) = q at *
     replace hg := Lib.hid hg
     go_enter Try.func8, Try.ntmps8
     go_upto_region 1 with (fail)
     rw [← hw1]
     clear hw1
     go_wp2_with fail
     go_ret
     exact ⟨by rw [hg.out]; rfl, BA.out⟩
theorem greatN_no {no ne np nl : Nat} {ix : Int} (h : greatN no ne np nl ix = false) : no ≤ 60 ∧ ne ≤ 1500 ∧ np ≤ 1500 ∧ nl ≤ 40 ∧ ix ≤ 1099511627776 := by
 unfold greatN at h
 simp only [Bool.or_eq_false_iff, decide_eq_false_iff_not] at h
 omega
end Go.Proofs.Ytojedpahaifjgaa
