/- Losses, in plain words: what losses tell, the losses of numbers; of rising numbers they tell just these. rtcp.Nacked: the numbers that losses tell (printed by wip/gen/genEpL.py out of RcE, RcI). No condition but the sizes'. The reference's Nacked (printed by wip/gen/genEpL.py out of RcJ). No condition but the sizes'. -/
import Derived.Below
import Derived.Test.YtojedpahaifjgaaGEe
import Derived.Test.YtojedpahaifjgaaArB
namespace Go.Proofs.Ytojedpahaifjgaa
def nack1 (s b : Nat) : List Nat := s :: ((List.range 16).filter b.testBit).map fun q => (s + 1 + q) % 65536
def nackN (L : List (Nat × Nat)) : List Nat := L.flatMap fun p => nack1 p.1 p.2
theorem nackN_append (a b : List (Nat × Nat)) : nackN (a ++ b) = nackN a ++ nackN b := by simp [nackN]
theorem nack1_length (s b : Nat) : (nack1 s b).length ≤ 17 := by
 have := List.length_filter_le b.testBit (List.range 16)
 simp only [List.length_range] at this
 simp only [nack1, List.length_cons, List.length_map]
 omega
theorem nackN_length (L : List (Nat × Nat)) : (nackN L).length ≤ 17 * L.length := by
 induction L with
 | nil => simp [nackN]
 | cons p L ih =>
  have := nack1_length p.1 p.2
  simp only [nackN, List.flatMap_cons, List.length_append, List.length_cons] at ih ⊢
  omega
end Go.Proofs.Ytojedpahaifjgaa

namespace Go.Proofs.Ytojedpahaifjgaa
open Go.RowKit
def lossV (p : Nat × Nat) : List Value := [.int .u16 (p.1 : Nat), .int .u16 (p.2 : Nat)]
def u16V (x : Nat) : List Value := [.int .u16 (x : Nat)]
def EO : Elt (Nat × Nat) := pureE 2 lossV (by decide) (fun _ => rfl) (fun r u hu => by simp only [lossV, List.mem_cons, List.not_mem_nil, or_false] at hu; rcases hu with rfl | rfl <;> rfl)
def U1N : Elt Nat := pureE 1 u16V (by decide) (fun _ => rfl) (fun r u hu => by simp only [u16V, List.mem_cons, List.not_mem_nil, or_false] at hu; rw [hu]; rfl)
theorem slU1N : SlTy Try.prog 120 32 1 2 := SlTy.mk' Try.underlying120 (by kernel_rfl) (by decide)
theorem sqO_form {w : World} {base : Nat} {sv : Option Addr} {n cap : Nat} {L : List (Nat × Nat)} (h : SQ EO w base (.slice sv n cap) n L) (h0 : 0 < n) :
  ∃ g o, sv = some ⟨g, o, none⟩ ∧ ∀ i (_ : i < L.length), w.cell? ⟨g, o + i * 2, none⟩ = some (.int .u16 ((L[i]).1 : Nat)) ∧ w.cell? ⟨g, o + i * 2 + 1, none⟩ = some (.int .u16 ((L[i]).2 : Nat)) := by
 obtain ⟨g, o, cap', hsl, _, _, _, hce⟩ := h.form h0
 simp only [Value.slice.injEq] at hsl
 refine ⟨g, o, hsl.1, fun i hi => ?_⟩
 obtain ⟨c, hc, hcc⟩ := hce i hi
 have hc' : c = lossV L[i] := hc
 have z0 := hcc 0 (by decide)
 have z1 := hcc 1 (by decide)
 have e2 : EO.size = 2 := rfl
 rw [hc', e2] at z0 z1
 exact ⟨z0, z1⟩
theorem sqU_form {w : World} {base : Nat} {sv : Option Addr} {n cap : Nat} {L : List Nat} (h : SQ U1N w base (.slice sv n cap) n L) (h0 : 0 < n) :
  ∃ g o, sv = some ⟨g, o, none⟩ ∧ ∀ i (_ : i < L.length), w.cell? ⟨g, o + i, none⟩ = some (.int .u16 ((L[i]) : Nat)) := by
 obtain ⟨g, o, cap', hsl, _, _, _, hce⟩ := h.form h0
 simp only [Value.slice.injEq] at hsl
 refine ⟨g, o, hsl.1, fun i hi => ?_⟩
 obtain ⟨c, hc, hcc⟩ := hce i hi
 have hc' : c = u16V L[i] := hc
 have z0 := hcc 0 (by decide)
 have e2 : U1N.size = 1 := rfl
 rw [hc', e2, Nat.mul_one] at z0
 exact z0
theorem bit_test (b q : Nat) (hb : b < 65536) : (bits .and .u16 ((b : Int) / 2 ^ q) 1 != 0) = b.testBit q := by
 have e : ((b : Int) / 2 ^ q) = ((b / 2 ^ q : Nat) : Int) := by push_cast; rfl
 have hlt : b / 2 ^ q < 65536 := Nat.lt_of_le_of_lt (Nat.div_le_self _ _) hb
 have e2 := u16_and_nat (b / 2 ^ q) 1 hlt (by decide)
 rw [nat_mask1] at e2
 rw [e, show (1 : Int) = ((1 : Nat) : Int) from rfl, e2, Nat.testBit_eq_decide_div_mod_eq]
 generalize b / 2 ^ q = x
 have : x % 2 = 0 ∨ x % 2 = 1 := by omega
 rcases this with h | h <;> rw [h] <;> rfl
def nackP (s b q : Nat) : List Nat := s :: ((List.range q).filter b.testBit).map fun q => (s + 1 + q) % 65536
theorem nackP_zero (s b : Nat) : nackP s b 0 = [s] := rfl
theorem nackP_yes (s b q : Nat) (h : b.testBit q = true) : nackP s b (q + 1) = nackP s b q ++ [(s + 1 + q) % 65536] := by
 simp [nackP, List.range_succ, List.filter_append, h]
theorem nackP_no (s b q : Nat) (h : b.testBit q = false) : nackP s b (q + 1) = nackP s b q := by
 simp [nackP, List.range_succ, List.filter_append, h]
theorem nackN_take (L : List (Nat × Nat)) (k : Nat) (h : k < L.length) : nackN (L.take (k + 1)) = nackN (L.take k) ++ nackP (L[k]).1 (L[k]).2 16 := by
 rw [List.take_add_one, List.getElem?_eq_getElem h, nackN_append]
 simp [nackN, nack1, nackP]
theorem w16 (s q : Nat) (hs : s < 65536) (hq : q < 16) : IntKind.u16.wrap (IntKind.u16.wrap ((s : Int) + 1) + (q : Int)) = (((s + 1 + q) % 65536 : Nat) : Int) := by
 rw [IntKind.wrap_u16, IntKind.wrap_u16]
 omega
set_option maxRecDepth 100000 in
set_option maxHeartbeats 8000000 in
theorem nacked_ok (b0 n : Nat) (v : Value) (L : List (Nat × Nat)) (hn : n ≤ 1000) (hL : ∀ p ∈ L, p.1 < 65536 ∧ p.2 < 65536) (w : World) (h : SQ EO w b0 v n L) :
  Calls Try.prog 45 #[v] w fun e w' => ∃ so m co, e = .returned (.slice so m co) ∧ EQ U1N 32 w' w.heap.size (.slice so m co) m (nackN L) ∧ BW w w' := by
 obtain ⟨sv, cap, rfl, hcap, hmx⟩ := h.len
 unfold maxLen at hmx
 have hH := Lib.hid h
 have hln := Lib.hid h.1
 clear h
 go_enter Try.func45, Try.ntmps45
 go_upto_region 3 with (fail)
 go_loopg [3, 9] n (fun m' out i wx => ∃ (k m : Nat) (so : Option Addr) (co : Nat), m' = n - k ∧ k ≤ n ∧ i = .int .i64 (k : Nat) ∧ out = .slice so m co ∧ co ≤ 9223372036854775807 ∧ m ≤ 17 * k ∧ Hid (EQ U1N 32 wx w.heap.size (.slice so m co) m (nackN (L.take k))) ∧ Hid (BW w wx))
 case atStart => exact ⟨0, 0, none, 0, rfl, by omega, rfl, rfl, by omega, by omega, EQ.nil _ _ _ _, BW.refl _⟩
 case round =>
  obtain ⟨k, m, so, co, rfl, hk, rfl, rfl, hco, hm, Q, B⟩ := hrel
  by_cases hkn : k < n
  ·have d1 : decide ((k : Int) < (n : Int)) = true := by simp; omega
   have hkl : k < L.length := by rw [hln.out]; exact hkn
   obtain ⟨g, o, rfl, hc⟩ := sqO_form (hH.out.bw B.out) (by omega)
   obtain ⟨z0, z1⟩ := hc k hkl
   obtain ⟨hs, hb⟩ := hL _ (List.getElem_mem hkl)
   have hT := nackN_take L k hkl
   have hbt := fun q => bit_test (L[k]).2 q hb
   clear hc
   generalize (L[k]).1 = s at *
   generalize (L[k]).2 = b at *
   generalize nackN (L.take k) = A at *
   replace hT := Lib.hid hT
   replace hbt := Lib.hid hbt
   replace hs := Lib.hid hs
   replace hb := Lib.hid hb
   have BA : BW wr (wr.alloc (.cells #[.int .u16 (s : Nat), .int .u16 (b : Nat)] 75)) := (BW.refl _).alloc
   have X := Lib.hid (HpB.new wr (.cells #[.int .u16 (s : Nat), .int .u16 (b : Nat)] 75))
   have Q := Lib.hid (Q.out.bw BA)
   have B := Lib.hid (B.out.trans BA)
   replace BA := Lib.hid BA
   go_upto_region 5 with (fail)
   generalize wr.alloc (.cells #[.int .u16 (s : Nat), .int .u16 (b : Nat)] 75) = w1 at *
   generalize wr.heap.size = gx at *
   clear z0 z1 BA
   have z0 := (hp_cell X.out 0).trans (show _ = some (.int .u16 (s : Nat)) from rfl)
   have BCq : BW w1 (w1.alloc (.cells #[.int .u16 (s : Nat)] 32)) := (BW.refl _).alloc
   have Lq := Lib.hid (Sls.new1 (E := U1N) w1 32 [.int .u16 (s : Nat)] rfl)
   replace Q := Lib.hid (Q.out.bw BCq)
   replace B := Lib.hid (B.out.trans BCq)
   replace X := Lib.hid (X.out.bw BCq)
   have hzq := Lib.hid (B.out.size)
   replace BCq := Lib.hid BCq
   go_upto_region 7 with (at_builtin; go_must (refine wpList_apEQ slU1N rfl _ _ rfl w.heap.size (.slice so m co) m A rfl Q.out _ rfl 1 [s] [.int .u16 (s : Nat)] Lq.out (EL.single rfl) rfl (by omega) hzq.out (fun _ _ => trivial) ?_; intro s3 c3 w3 hcq hmq Qn Tn hbn Gn; unfold maxLen at hmq; replace Qn := Lib.hid Qn; replace Tn := Lib.hid Tn; replace Gn := Lib.hid Gn; clear hbn))
   replace B := Lib.hid (BW.stP B.out Tn.out (fun j hj => Q.out.ge' j (by simpa using hj)))
   replace X := Lib.hid (X.out.st Tn.out (fun hm => Q.out.ne X.out (by decide) _ (by simpa using hm) rfl))
   clear Q Tn Gn Lq hzq BCq
   have Q := Qn
   clear Qn
   clear z0
   rw [← nackP_zero s b] at Q
   obtain ⟨wp, hwp⟩ : ∃ wp, wp = w3 := ⟨_, rfl⟩
   rw [← hwp] at X B Q ⊢
   clear hwp
   go_loopg [3, 18] 16 (fun m' out i wx => ∃ (q m2 : Nat) (so : Option Addr) (co : Nat), m' = 16 - q ∧ q ≤ 16 ∧ i = .int .i64 (q : Nat) ∧ out = .slice so m2 co ∧ co ≤ 9223372036854775807 ∧ m2 ≤ 17 * k + 1 + q ∧ Hid (EQ U1N 32 wx w.heap.size (.slice so m2 co) m2 (A ++ nackP s b q)) ∧ Hid (HpB wx gx (.cells #[.int .u16 (s : Nat), .int .u16 (b : Nat)] 75)) ∧ Hid (BW w wx))
   case atStart => exact ⟨0, m + 1, s3, c3, by omega, by omega, rfl, rfl, by omega, by omega, Q, X, B⟩
   case round =>
    clear Q X B
    obtain ⟨q, m2, so, co, rfl, hq, rfl, rfl, hco, hm2, Q, X, B⟩ := hrel
    by_cases hq16 : q < 16
    ·have d : decide ((q : Int) < 16) = true := by simp; omega
     have z0 := (hp_cell X.out 0).trans (show _ = some (.int .u16 (s : Nat)) from rfl)
     have z1 := (hp_cell X.out 1).trans (show _ = some (.int .u16 (b : Nat)) from rfl)
     go_upto_if 26 with (fail)
     rw [hbt.out q]
     cases htb : b.testBit q with
     | false =>
      have hP := nackP_no s b q htb
      replace htb := Lib.hid htb
      replace hP := Lib.hid hP
      go_wp2_with fail
      go_roundg (16 - (q + 1))
      case measure => omega
      case rel => exact ⟨q + 1, m2, so, co, rfl, by omega, by first | rfl | (congr 1; omega), rfl, hco, by omega, Lib.hid (by rw [hP.out]; exact Q.out), X, B⟩
     | true =>
      have hP := nackP_yes s b q htb
      have hw := w16 s q hs.out hq16
      generalize (s + 1 + q) % 65536 = y at *
      replace htb := Lib.hid htb
      replace hP := Lib.hid hP
      have BCq : BW wr (wr.alloc (.cells #[.int .u16 (y : Nat)] 32)) := (BW.refl _).alloc
      have Lq := Lib.hid (Sls.new1 (E := U1N) wr 32 [.int .u16 (y : Nat)] rfl)
      replace Q := Lib.hid (Q.out.bw BCq)
      replace B := Lib.hid (B.out.trans BCq)
      replace X := Lib.hid (X.out.bw BCq)
      have hzq := Lib.hid (B.out.size)
      replace BCq := Lib.hid BCq
      go_upto_region 11 with (at_builtin; go_must (refine wpList_apEQ slU1N rfl _ _ rfl w.heap.size (.slice so m2 co) m2 (A ++ nackP s b q) rfl Q.out _ rfl 1 [y] [.int .u16 (y : Nat)] Lq.out (EL.single rfl) rfl (by omega) hzq.out (fun _ _ => trivial) ?_; intro s4 c4 w4 hcq hmq Qn Tn hbn Gn; unfold maxLen at hmq; replace Qn := Lib.hid Qn; replace Tn := Lib.hid Tn; replace Gn := Lib.hid Gn; clear hbn))
      replace B := Lib.hid (BW.stP B.out Tn.out (fun j hj => Q.out.ge' j (by simpa using hj)))
      replace X := Lib.hid (X.out.st Tn.out (fun hm => Q.out.ne X.out (by decide) _ (by simpa using hm) rfl))
      clear Q Tn Gn Lq hzq BCq
      have Q := Qn
      clear Qn
      rw [List.append_assoc, ← hP.out] at Q
      clear z0 z1
      go_wp2_with fail
      go_roundg (16 - (q + 1))
      case measure => omega
      case rel => exact ⟨q + 1, m2 + 1, s4, c4, rfl, by omega, by first | rfl | (congr 1; omega), rfl, by omega, by omega, Q, X, B⟩
    ·obtain rfl : q = 16 := by omega
     have d : decide (((16 : Nat) : Int) < 16) = false := by decide
     rw [← hT.out] at Q
     go_wp2_with fail
     go_roundg (n - (k + 1))
     case measure => omega
     case rel => exact ⟨k + 1, m2, so, co, rfl, by omega, by first | rfl | (congr 1; omega), rfl, hco, by omega, Q, B⟩
  ·obtain rfl : k = n := by omega
   have hT : L.take k = L := by rw [← hln.out, List.take_length]
   rw [hT] at Q
   clear hT
   have d1 : decide ((k : Int) < (k : Int)) = false := by simp
   go_wp2_with fail
   go_ret
   exact ⟨so, m, co, rfl, Q.out, B.out⟩
end Go.Proofs.Ytojedpahaifjgaa

namespace Go.Proofs.Ytojedpahaifjgaa
open Go.RowKit
set_option maxRecDepth 100000 in
set_option maxHeartbeats 8000000 in
theorem rnacked_ok (b0 n : Nat) (v : Value) (L : List (Nat × Nat)) (hn : n ≤ 1000) (hL : ∀ p ∈ L, p.1 < 65536 ∧ p.2 < 65536) (w : World) (h : SQ EO w b0 v n L) :
  Calls Try.prog 53 #[v] w fun e w' => ∃ so m co, e = .returned (.slice so m co) ∧ EQ U1N 32 w' w.heap.size (.slice so m co) m (nackN L) ∧ BW w w' := by
 obtain ⟨sv, cap, rfl, hcap, hmx⟩ := h.len
 unfold maxLen at hmx
 have hH := Lib.hid h
 have hln := Lib.hid h.1
 clear h
 go_enter Try.func53, Try.ntmps53
 go_upto_region 3 with (fail)
 go_loopg [3, 4] n (fun m' out i wx => ∃ (k m : Nat) (so : Option Addr) (co : Nat), m' = n - k ∧ k ≤ n ∧ i = .int .i64 (k : Nat) ∧ out = .slice so m co ∧ co ≤ 9223372036854775807 ∧ m ≤ 17 * k ∧ Hid (EQ U1N 32 wx w.heap.size (.slice so m co) m (nackN (L.take k))) ∧ Hid (BW w wx))
 case atStart => exact ⟨0, 0, none, 0, rfl, by omega, rfl, rfl, by omega, by omega, EQ.nil _ _ _ _, BW.refl _⟩
 case round =>
  obtain ⟨k, m, so, co, rfl, hk, rfl, rfl, hco, hm, Q, B⟩ := hrel
  by_cases hkn : k < n
  ·have d1 : decide ((k : Int) < (n : Int)) = true := by simp; omega
   have hkl : k < L.length := by rw [hln.out]; exact hkn
   obtain ⟨g, o, rfl, hc⟩ := sqO_form hH.out (by omega)
   obtain ⟨x0, x1⟩ := hc k hkl
   obtain ⟨hs, hb⟩ := hL _ (List.getElem_mem hkl)
   have hT := nackN_take L k hkl
   have hb0 : (L[k]).2 / 2 ^ 0 = (L[k]).2 := by simp
   clear hc
   generalize (L[k]).1 = s at *
   generalize (L[k]).2 = b at *
   generalize nackN (L.take k) = A at *
   have z0 := B.out.cell x0
   replace hT := Lib.hid hT
   replace hs := Lib.hid hs
   replace hb := Lib.hid hb
   replace hb0 := Lib.hid hb0
   replace x0 := Lib.hid x0
   replace x1 := Lib.hid x1
   have BCq : BW wr (wr.alloc (.cells #[.int .u16 (s : Nat)] 32)) := (BW.refl _).alloc
   have Lq := Lib.hid (Sls.new1 (E := U1N) wr 32 [.int .u16 (s : Nat)] rfl)
   replace Q := Lib.hid (Q.out.bw BCq)
   replace B := Lib.hid (B.out.trans BCq)
   have hzq := Lib.hid (B.out.size)
   replace BCq := Lib.hid BCq
   go_upto_region 6 with (at_builtin; go_must (refine wpList_apEQ slU1N rfl _ _ rfl w.heap.size (.slice so m co) m A rfl Q.out _ rfl 1 [s] [.int .u16 (s : Nat)] Lq.out (EL.single rfl) rfl (by omega) hzq.out (fun _ _ => trivial) ?_; intro s3 c3 w3 hcq hmq Qn Tn hbn Gn; unfold maxLen at hmq; replace Qn := Lib.hid Qn; replace Tn := Lib.hid Tn; replace Gn := Lib.hid Gn; clear hbn))
   replace B := Lib.hid (BW.stP B.out Tn.out (fun j hj => Q.out.ge' j (by simpa using hj)))
   clear Q Tn Gn Lq hzq BCq
   have Q := Qn
   clear Qn
   clear z0
   have z1 := B.out.cell x1.out
   rw [← nackP_zero s b] at Q
   go_upto_region 8 with (fail)
   clear z1
   obtain ⟨wp, hwp⟩ : ∃ wp, wp = w3 := ⟨_, rfl⟩
   rw [← hwp] at B Q ⊢
   clear hwp
   go_loopg [3, 5, 6] 16 (fun m' out bs i wx => ∃ (q m2 : Nat) (so : Option Addr) (co : Nat), m' = 16 - q ∧ q ≤ 16 ∧ i = .int .i64 ((q : Int) + 1) ∧ bs = .int .u16 ((b / 2 ^ q : Nat) : Int) ∧ out = .slice so m2 co ∧ co ≤ 9223372036854775807 ∧ m2 ≤ 17 * k + 1 + q ∧ Hid (EQ U1N 32 wx w.heap.size (.slice so m2 co) m2 (A ++ nackP s b q)) ∧ Hid (BW w wx))
   case atStart => exact ⟨0, m + 1, s3, c3, by omega, by omega, rfl, by rw [hb0.out], rfl, by omega, by omega, Q, B⟩
   case round =>
    clear Q B
    obtain ⟨q, m2, so, co, rfl, hq, rfl, rfl, rfl, hco, hm2, Q, B⟩ := hrel
    by_cases hq16 : q < 16
    ·have d : decide ((q : Int) + 1 < 17) = true := by simp; omega
     have hlt : b / 2 ^ q < 65536 := Nat.lt_of_le_of_lt (Nat.div_le_self _ _) hb.out
     have hpw : b / 2 ^ (q + 1) = b / 2 ^ q / 2 := by rw [Nat.pow_succ, Nat.div_div_eq_div_mul]
     have hbt : b.testBit q = decide (b / 2 ^ q % 2 = 1) := Nat.testBit_eq_decide_div_mod_eq
     have hP1 := nackP_yes s b q
     have hP0 := nackP_no s b q
     have hs' := hs.out
     have hw : IntKind.u16.wrap ((s : Int) + ((q : Int) + 1)) = (((s + 1 + q) % 65536 : Nat) : Int) := by
      rw [IntKind.wrap_u16]
      omega
     generalize b / 2 ^ q = bq at *
     generalize (s + 1 + q) % 65536 = y at *
     have z0 := B.out.cell x0.out
     replace hpw := Lib.hid hpw
     replace hP1 := Lib.hid hP1
     replace hP0 := Lib.hid hP0
     replace hbt := Lib.hid hbt
     by_cases hodd : bq % 2 = 1
     ·have d2 : ((bq : Int) % 2 == 1) = true := by simp; omega
      have hP := hP1.out (by rw [hbt.out]; simpa using hodd)
      replace hP := Lib.hid hP
      replace hodd := Lib.hid hodd
      have BCq : BW wr (wr.alloc (.cells #[.int .u16 (y : Nat)] 32)) := (BW.refl _).alloc
      have Lq := Lib.hid (Sls.new1 (E := U1N) wr 32 [.int .u16 (y : Nat)] rfl)
      replace Q := Lib.hid (Q.out.bw BCq)
      replace B := Lib.hid (B.out.trans BCq)
      have hzq := Lib.hid (B.out.size)
      replace BCq := Lib.hid BCq
      go_upto_region 12 with (at_builtin; go_must (refine wpList_apEQ slU1N rfl _ _ rfl w.heap.size (.slice so m2 co) m2 (A ++ nackP s b q) rfl Q.out _ rfl 1 [y] [.int .u16 (y : Nat)] Lq.out (EL.single rfl) rfl (by omega) hzq.out (fun _ _ => trivial) ?_; intro s4 c4 w4 hcq hmq Qn Tn hbn Gn; unfold maxLen at hmq; replace Qn := Lib.hid Qn; replace Tn := Lib.hid Tn; replace Gn := Lib.hid Gn; clear hbn))
      replace B := Lib.hid (BW.stP B.out Tn.out (fun j hj => Q.out.ge' j (by simpa using hj)))
      clear Q Tn Gn Lq hzq BCq
      have Q := Qn
      clear Qn
      rw [List.append_assoc, ← hP.out] at Q
      clear z0
      go_wp2_with fail
      go_roundg (16 - (q + 1))
      case measure => omega
      case rel => exact ⟨q + 1, m2 + 1, s4, c4, rfl, by omega, by first | rfl | (congr 1; omega), by rw [hpw.out]; first | rfl | (congr 1; omega), rfl, by omega, by omega, Q, B⟩
     ·have d2 : ((bq : Int) % 2 == 1) = false := by simp; omega
      have hP := hP0.out (by rw [hbt.out]; simpa using hodd)
      replace hP := Lib.hid hP
      replace hodd := Lib.hid hodd
      go_wp2_with fail
      go_roundg (16 - (q + 1))
      case measure => omega
      case rel => exact ⟨q + 1, m2, so, co, rfl, by omega, by first | rfl | (congr 1; omega), by rw [hpw.out]; first | rfl | (congr 1; omega), rfl, hco, by omega, Lib.hid (by rw [hP.out]; exact Q.out), B⟩
    ·obtain rfl : q = 16 := by omega
     have d : decide (((16 : Nat) : Int) + 1 < 17) = false := by decide
     rw [← hT.out] at Q
     go_wp2_with fail
     go_roundg (n - (k + 1))
     case measure => omega
     case rel => exact ⟨k + 1, m2, so, co, rfl, by omega, by first | rfl | (congr 1; omega), rfl, hco, by omega, Q, B⟩
  ·obtain rfl : k = n := by omega
   have hT : L.take k = L := by rw [← hln.out, List.take_length]
   rw [hT] at Q
   clear hT
   have d1 : decide ((k : Int) < (k : Int)) = false := by simp
   go_wp2_with fail
   go_ret
   exact ⟨so, m, co, rfl, Q.out, B.out⟩
end Go.Proofs.Ytojedpahaifjgaa
