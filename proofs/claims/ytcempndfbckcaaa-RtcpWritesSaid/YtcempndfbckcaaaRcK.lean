/- rtcp.Losses: the losses of numbers. No condition but the sizes'. -/
import Derived.Test.YtcempndfbckcaaaRcI
namespace Go.Proofs.Ytcempndfbckcaaa
open Go.RowKit
theorem gapN_lt (x s : Nat) : gapN x s < 65536 := Nat.mod_lt _ (by decide)
theorem gap_w (x s : Nat) (hs : s < 65536) (hx : x < 65536) : IntKind.u16.wrap ((x : Int) - (s : Int)) = (gapN x s : Nat) := by
 rw [IntKind.wrap_u16]
 unfold gapN
 omega
theorem lossStep_hit (A : List (Nat × Nat)) (s b x : Nat) (h : 1 ≤ gapN x s ∧ gapN x s ≤ 16) : lossStep (A ++ [(s, b)]) x = A ++ [(s, b ||| 2 ^ (gapN x s - 1))] := by
 simp [lossStep, h]
theorem lossStep_far (A : List (Nat × Nat)) (s b x : Nat) (h : ¬(1 ≤ gapN x s ∧ gapN x s ≤ 16)) : lossStep (A ++ [(s, b)]) x = A ++ [(s, b)] ++ [(x, 0)] := by
 simp only [lossStep, List.getLast?_concat]
 rw [if_neg h]
theorem lossN_take (l : List Nat) (k : Nat) (h : k < l.length) : lossN (l.take (k + 1)) = lossStep (lossN (l.take k)) l[k] := by
 unfold lossN
 rw [List.take_add_one, List.getElem?_eq_getElem h, List.foldl_append]
 rfl
theorem eqO_form {T : TypeId} {w : World} {base : Nat} {sv : Option Addr} {n cap : Nat} {L : List (Nat × Nat)} (h : EQ EO T w base (.slice sv n cap) n L) (h0 : 0 < n) :
  ∃ g o, sv = some ⟨g, o, none⟩ ∧ base ≤ g ∧ ∀ i (_ : i < L.length), w.cell? ⟨g, o + i * 2, none⟩ = some (.int .u16 ((L[i]).1 : Nat)) ∧ w.cell? ⟨g, o + i * 2 + 1, none⟩ = some (.int .u16 ((L[i]).2 : Nat)) := by
 obtain ⟨g, o, cap', hsl, hb, _, _, _, hce⟩ := h.form h0
 simp only [Value.slice.injEq] at hsl
 refine ⟨g, o, hsl.1, hb, fun i hi => ?_⟩
 obtain ⟨c, hc, hcc⟩ := hce i hi
 have hc' : c = lossV L[i] := hc
 have z0 := hcc 0 (by decide)
 have z1 := hcc 1 (by decide)
 have e2 : EO.size = 2 := rfl
 rw [hc', e2] at z0 z1
 exact ⟨z0, z1⟩
theorem EQ.bits {w : World} {base g o cap m : Nat} {A : List (Nat × Nat)} {s b c : Nat} (h : EQ EO 30 w base (.slice (some ⟨g, o, none⟩) (m + 1) cap) (m + 1) (A ++ [(s, b)])) (hm : A.length = m) :
  EQ EO 30 (w.setCell ⟨g, o + m * 2 + 1, none⟩ (.int .u16 (c : Nat))) base (.slice (some ⟨g, o, none⟩) (m + 1) cap) (m + 1) (A ++ [(s, c)]) := by
 have h1 := h.setJ trivial (a := (s, c)) (u := .int .u16 (c : Nat)) m 1 (by decide) (by simp [hm]) (fun cs hcs => by
  have : cs = lossV (s, b) := by
   have e : (A ++ [(s, b)])[m]'(by simp [hm]) = (s, b) := by simp [← hm]
   rw [e] at hcs
   exact hcs
  rw [this]
  rfl)
 have e2 : (A ++ [(s, b)]).set m (s, c) = A ++ [(s, c)] := by rw [← hm]; simp
 rw [e2] at h1
 exact h1
theorem or_w (b j : Nat) (hb : b < 65536) (hj : j < 16) : bits .or .u16 (b : Int) (IntKind.u16.wrap (2 ^ j)) = ((b ||| 2 ^ j : Nat) : Int) := by
 have h1 : 2 ^ j < 65536 := Nat.pow_lt_pow_right (by decide) hj
 have e : IntKind.u16.wrap ((2 : Int) ^ j) = ((2 ^ j : Nat) : Int) := by
  rw [IntKind.wrap_u16, show (2 : Int) ^ j = ((2 ^ j : Nat) : Int) by push_cast; rfl]
  generalize 2 ^ j = y at *
  omega
 rw [e]
 exact u16_or_nat b (2 ^ j) hb h1
set_option maxRecDepth 100000 in
set_option maxHeartbeats 8000000 in
theorem losses_ok (b0 n : Nat) (v : Value) (L : List Nat) (hn : n ≤ 1000) (hL : ∀ p ∈ L, p < 65536) (w : World) (h : SQ U1N w b0 v n L) :
  Calls Try.prog 20 #[v] w fun e w' => ∃ so m co, e = .returned (.slice so m co) ∧ EQ EO 30 w' w.heap.size (.slice so m co) m (lossN L) ∧ BW w w' := by
 obtain ⟨sv, cap, rfl, hcap, hmx⟩ := h.len
 unfold maxLen at hmx
 have hH := Lib.hid h
 have hln := Lib.hid h.1
 clear h
 go_enter Try.func20, Try.ntmps20
 go_upto_region 3 with (fail)
 go_loopg [3, 10] n (fun m' out i wx => ∃ (k m : Nat) (so : Option Addr) (co : Nat), m' = n - k ∧ k ≤ n ∧ i = .int .i64 (k : Nat) ∧ out = .slice so m co ∧ co ≤ 9223372036854775807 ∧ m ≤ k ∧ Hid (EQ EO 30 wx w.heap.size (.slice so m co) m (lossN (L.take k))) ∧ Hid (BW w wx))
 case atStart => exact ⟨0, 0, none, 0, rfl, by omega, rfl, rfl, by omega, by omega, EQ.nil _ _ _ _, BW.refl _⟩
 case round =>
  obtain ⟨k, m, so, co, rfl, hk, rfl, rfl, hco, hm, Q, B⟩ := hrel
  by_cases hkn : k < n
  ·have d1 : decide ((k : Int) < (n : Int)) = true := by simp; omega
   have hkl : k < L.length := by rw [hln.out]; exact hkn
   obtain ⟨g, o, rfl, hc⟩ := sqU_form hH.out (by omega)
   have x0 := hc k hkl
   have hx := hL _ (List.getElem_mem hkl)
   have hT := lossN_take L k hkl
   have hlt := fun q hq => lossN_lt (L.take k) (fun x hx => hL x (List.mem_of_mem_take hx)) q hq
   clear hc
   generalize L[k] = x at *
   generalize lossN (L.take k) = O at *
   have z0 := B.out.cell x0
   replace hT := Lib.hid hT
   replace hlt := Lib.hid hlt
   replace x0 := Lib.hid x0
   by_cases hm0 : m = 0
   ·have hO : O = [] := List.eq_nil_of_length_eq_zero (by rw [Q.out.1]; exact hm0)
    have hF := Lib.hid (show lossStep O x = O ++ [(x, 0)] by rw [hO]; rfl)
    have d2 : decide (0 < m) = false := by simp; omega
    clear hO hm0
    have BCq : BW wr (wr.alloc (.cells #[.int .u16 (x : Nat), .int .u16 0] 30)) := (BW.refl _).alloc
    have Lq := Lib.hid (Sls.new1 (E := EO) wr 30 [.int .u16 (x : Nat), .int .u16 0] rfl)
    replace Q := Lib.hid (Q.out.bw BCq)
    replace B := Lib.hid (B.out.trans BCq)
    have hzq := Lib.hid (B.out.size)
    replace BCq := Lib.hid BCq
    go_upto_region 11 with (at_builtin; go_must (refine wpList_apEQ slEO rfl _ _ rfl w.heap.size (.slice so m co) m O rfl Q.out _ rfl 1 [(x, 0)] [.int .u16 (x : Nat), .int .u16 0] Lq.out (EL.single rfl) rfl (by omega) hzq.out (fun _ _ => trivial) ?_; intro s3 c3 w3 hcq hmq Qn Tn hbn Gn; unfold maxLen at hmq; replace Qn := Lib.hid Qn; replace Tn := Lib.hid Tn; replace Gn := Lib.hid Gn; clear hbn))
    replace B := Lib.hid (BW.stP B.out Tn.out (fun j hj => Q.out.ge' j (by simpa using hj)))
    clear Q Tn Gn Lq hzq BCq
    have Q := Qn
    clear Qn
    rw [← hF.out, ← hT.out] at Q
    go_wp2_with fail
    go_roundg (n - (k + 1))
    case measure => omega
    case rel => exact ⟨k + 1, m + 1, s3, c3, rfl, by omega, by first | rfl | (congr 1; omega), rfl, by omega, by omega, Q, B⟩
   ·obtain ⟨mm, rfl⟩ : ∃ mm, m = mm + 1 := ⟨m - 1, by omega⟩
    have d2 : decide (0 < ((mm + 1 : Nat) : Int)) = true := by simp
    obtain ⟨A, ⟨s, b⟩, hO'⟩ := (List.eq_nil_or_concat O).resolve_left (fun e => by have := Q.out.1; rw [e] at this; simp at this)
    have hO : O = A ++ [(s, b)] := by rw [hO', List.concat_eq_append]
    clear hO'
    have hA : A.length = mm := by have := Q.out.1; rw [hO] at this; simpa using this
    obtain ⟨g2, o2, rfl, hge, hc⟩ := eqO_form Q.out (by omega)
    have hs : s < 65536 ∧ b < 65536 := hlt.out (s, b) (by rw [hO]; simp)
    have hcl := hc mm (by rw [hO]; simp [hA])
    have hel : O[mm]'(by rw [hO]; simp [hA]) = (s, b) := by simp [hO, ← hA]
    rw [hel] at hcl
    obtain ⟨y0, y1⟩ := hcl
    have hw := gap_w x s hs.1 hx
    have hg := gapN_lt x s
    have hFa := lossStep_far A s b x
    have hHi := lossStep_hit A s b x
    rw [← hO] at hFa
    rw [← hO] at hHi
    clear hc hel
    generalize gapN x s = gp at *
    replace hFa := Lib.hid hFa
    replace hHi := Lib.hid hHi
    replace hs := Lib.hid hs
    replace hge := Lib.hid hge
    replace hA := Lib.hid hA
    replace hO := Lib.hid hO
    go_upto_region 8 with (fail)
    clear y0
    by_cases hg1 : 1 ≤ gp
    ·have e1 : decide (1 ≤ gp) = true := by simpa using hg1
     by_cases hg2 : gp ≤ 16
     ·have e2 : decide (gp ≤ 16) = true := by simpa using hg2
      have hv := or_w b (gp - 1) hs.out.2 (by omega)
      have hF := hHi.out ⟨hg1, hg2⟩
      rw [hO.out] at Q
      have f1 := Q.out.frz (by omega) (o2 + mm * 2 + 1)
      generalize b ||| 2 ^ (gp - 1) = c at *
      have Q1 := Lib.hid (Q.out.bits hA.out (c := c))
      have B1 := Lib.hid (B.out.stP (still_sc wr g2 (o2 + mm * 2 + 1) (.int .u16 (c : Nat))) (fun j hj => by obtain rfl : j = g2 := (by simpa using hj); exact hge.out))
      rw [← hF, ← hT.out] at Q1
      clear Q B hF
      go_upto_region 11 with (fail)
      clear y1 f1
      go_wp2_with fail
      go_roundg (n - (k + 1))
      case measure => omega
      case rel => exact ⟨k + 1, mm + 1, _, co, rfl, by omega, by first | rfl | (congr 1; omega), rfl, by omega, by omega, Q1, B1⟩
     ·have e2 : decide (gp ≤ 16) = false := by simpa using hg2
      have hF := Lib.hid (hFa.out (by omega))
      clear y1
      have BCq : BW wr (wr.alloc (.cells #[.int .u16 (x : Nat), .int .u16 0] 30)) := (BW.refl _).alloc
      have Lq := Lib.hid (Sls.new1 (E := EO) wr 30 [.int .u16 (x : Nat), .int .u16 0] rfl)
      replace Q := Lib.hid (Q.out.bw BCq)
      replace B := Lib.hid (B.out.trans BCq)
      have hzq := Lib.hid (B.out.size)
      replace BCq := Lib.hid BCq
      go_upto_region 11 with (at_builtin; go_must (refine wpList_apEQ slEO rfl _ _ rfl w.heap.size (.slice (some ⟨g2,o2,none⟩) (mm+1) co) (mm+1) O rfl Q.out _ rfl 1 [(x, 0)] [.int .u16 (x : Nat), .int .u16 0] Lq.out (EL.single rfl) rfl (by omega) hzq.out (fun _ _ => trivial) ?_; intro s3 c3 w3 hcq hmq Qn Tn hbn Gn; unfold maxLen at hmq; replace Qn := Lib.hid Qn; replace Tn := Lib.hid Tn; replace Gn := Lib.hid Gn; clear hbn))
      replace B := Lib.hid (BW.stP B.out Tn.out (fun j hj => Q.out.ge' j (by simpa using hj)))
      clear Q Tn Gn Lq hzq BCq
      have Q := Qn
      clear Qn
      rw [← hF.out, ← hT.out] at Q
      go_wp2_with fail
      go_roundg (n - (k + 1))
      case measure => omega
      case rel => exact ⟨k + 1, mm + 1 + 1, s3, c3, rfl, by omega, by first | rfl | (congr 1; omega), rfl, by omega, by omega, Q, B⟩
    ·have e1 : decide (1 ≤ gp) = false := by simpa using hg1
     have hF := Lib.hid (hFa.out (by omega))
     clear y1
     have BCq : BW wr (wr.alloc (.cells #[.int .u16 (x : Nat), .int .u16 0] 30)) := (BW.refl _).alloc
     have Lq := Lib.hid (Sls.new1 (E := EO) wr 30 [.int .u16 (x : Nat), .int .u16 0] rfl)
     replace Q := Lib.hid (Q.out.bw BCq)
     replace B := Lib.hid (B.out.trans BCq)
     have hzq := Lib.hid (B.out.size)
     replace BCq := Lib.hid BCq
     go_upto_region 11 with (at_builtin; go_must (refine wpList_apEQ slEO rfl _ _ rfl w.heap.size (.slice (some ⟨g2,o2,none⟩) (mm+1) co) (mm+1) O rfl Q.out _ rfl 1 [(x, 0)] [.int .u16 (x : Nat), .int .u16 0] Lq.out (EL.single rfl) rfl (by omega) hzq.out (fun _ _ => trivial) ?_; intro s3 c3 w3 hcq hmq Qn Tn hbn Gn; unfold maxLen at hmq; replace Qn := Lib.hid Qn; replace Tn := Lib.hid Tn; replace Gn := Lib.hid Gn; clear hbn))
     replace B := Lib.hid (BW.stP B.out Tn.out (fun j hj => Q.out.ge' j (by simpa using hj)))
     clear Q Tn Gn Lq hzq BCq
     have Q := Qn
     clear Qn
     rw [← hF.out, ← hT.out] at Q
     go_wp2_with fail
     go_roundg (n - (k + 1))
     case measure => omega
     case rel => exact ⟨k + 1, mm + 1 + 1, s3, c3, rfl, by omega, by first | rfl | (congr 1; omega), rfl, by omega, by omega, Q, B⟩
  ·obtain rfl : k = n := by omega
   have hT : L.take k = L := by rw [← hln.out, List.take_length]
   rw [hT] at Q
   clear hT
   have d1 : decide ((k : Int) < (k : Int)) = false := by simp
   go_wp2_with fail
   go_ret
   exact ⟨so, m, co, rfl, Q.out, B.out⟩
end Go.Proofs.Ytcempndfbckcaaa
