/- The reference's Losses. No condition but the sizes'. -/
import Derived.Test.YtcempndfbckcaaaRcK
namespace Go.Proofs.Ytcempndfbckcaaa
open Go.RowKit

theorem gap_hit (x s q : Nat) (hs : s < 65536) (hx : x < 65536) (hq : q < 16) : (IntKind.u16.wrap ((s : Int) + ((q : Int) + 1)) == (x : Int)) = decide (gapN x s = q + 1) := by
  have e : (IntKind.u16.wrap ((s : Int) + ((q : Int) + 1)) = (x : Int)) = (gapN x s = q + 1) := by
    rw [IntKind.wrap_u16]
    unfold gapN
    refine propext ⟨fun h => ?_, fun h => ?_⟩ <;> omega
  rw [← decide_eq_decide.2 (iff_of_eq e)]
  exact (Bool.beq_eq_decide_eq _ _)
set_option maxRecDepth 100000 in
set_option maxHeartbeats 8000000 in
theorem rlosses_ok (b0 n : Nat) (v : Value) (L : List Nat) (hn : n ≤ 1000) (hL : ∀ p ∈ L, p < 65536) (w : World) (h : SQ U1N w b0 v n L) :
    Calls Try.prog 21 #[v] w fun e w' => ∃ so m co, e = .returned (.slice so m co) ∧ EQ EO 30 w' w.heap.size (.slice so m co) m (lossN L) ∧ BW w w' := by
  obtain ⟨sv, cap, rfl, hcap, hmx⟩ := h.len
  unfold maxLen at hmx
  have hH := Lib.hid h
  have hln := Lib.hid h.1
  clear h
  go_enter Try.func21, Try.ntmps21
  go_upto_region 3 with (fail)
  go_loopg [3, 4] n (fun m' out i wx => ∃ (k m : Nat) (so : Option Addr) (co : Nat), m' = n - k ∧ k ≤ n ∧ i = .int .i64 (k : Nat) ∧ out = .slice so m co ∧ co ≤ 9223372036854775807 ∧ m ≤ k ∧ Hid (EQ EO 30 wx w.heap.size (.slice so m co) m (lossN (L.take k))) ∧ Hid (BW w wx))
  case atStart => exact ⟨0, 0, none, 0, rfl, by omega, rfl, rfl, by omega, by omega, EQ.nil _ _ _ _, BW.refl _⟩
  case round =>
    obtain ⟨k, m, so, co, rfl, hk, rfl, rfl, hco, hm, Q, B⟩ := hrel
    by_cases hkn : k < n
    · have d1 : decide ((k : Int) < (n : Int)) = true := by simp; omega
      have hkl : k < L.length := by rw [hln.out]; exact hkn
      obtain ⟨g, o, rfl, hc⟩ := sqU_form hH.out (by omega)
      have x0 := hc k hkl
      have hx := hL _ (List.getElem_mem hkl)
      have hT := lossN_take L k hkl
      have hlt := fun q hq => lossN_lt (L.take k) (fun x hx => hL x (List.mem_of_mem_take hx)) q hq
      clear hc
      generalize L[k] = x at *
      generalize lossN (L.take k) = O at *
      replace hT := Lib.hid hT
      replace hlt := Lib.hid hlt
      replace x0 := Lib.hid x0
      go_upto_region 7 with (fail)
      obtain ⟨wp, hwp⟩ : ∃ wp, wp = wr := ⟨_, rfl⟩
      rw [← hwp] at Q B ⊢
      clear hwp
      by_cases hm0 : m = 0
      · have hO : O = [] := List.eq_nil_of_length_eq_zero (by rw [Q.out.1]; exact hm0)
        have hF := Lib.hid (show lossStep O x = O ++ [(x, 0)] by rw [hO]; rfl)
        have d2 : decide (0 < m) = false := by simp; omega
        clear hO hm0
        go_loopg [5, 6] 1 (fun m' dn i wx => m' = 1 ∧ i = .int .i64 1 ∧ dn = .bool false ∧ Hid (EQ EO 30 wx w.heap.size (.slice so m co) m O) ∧ Hid (BW w wx))
        case atStart => exact ⟨rfl, rfl, rfl, Q, B⟩
        case round =>
          clear Q B
          obtain ⟨rfl, rfl, rfl, Q, B⟩ := hrel
          have z0 := B.out.cell x0.out
          have BCq : BW wr (wr.alloc (.cells #[.int .u16 (x : Nat), .int .u16 0] 30)) := (BW.refl _).alloc
          have Lq := Lib.hid (Sls.new1 (E := EO) wr 30 [.int .u16 (x : Nat), .int .u16 0] rfl)
          replace Q := Lib.hid (Q.out.bw BCq)
          replace B := Lib.hid (B.out.trans BCq)
          have hzq := Lib.hid (B.out.size)
          replace BCq := Lib.hid BCq
          go_upto_region 4 with (at_builtin; go_must (refine wpList_apEQ slEO rfl _ _ rfl w.heap.size (.slice so m co) m O rfl Q.out _ rfl 1 [(x, 0)] [.int .u16 (x : Nat), .int .u16 0] Lq.out (EL.single rfl) rfl (by omega) hzq.out (fun _ _ => trivial) ?_; intro s3 c3 w3 hcq hmq Qn Tn hbn Gn; unfold maxLen at hmq; replace Qn := Lib.hid Qn; replace Tn := Lib.hid Tn; replace Gn := Lib.hid Gn; clear hbn))
          replace B := Lib.hid (BW.stP B.out Tn.out (fun j hj => Q.out.ge' j (by simpa using hj)))
          clear Q Tn Gn Lq hzq BCq
          have Q := Qn
          clear Qn
          rw [← hF.out, ← hT.out] at Q
          clear z0
          go_wp2_with fail
          go_roundg (n - (k + 1))
          case measure => omega
          case rel => exact ⟨k + 1, m + 1, s3, c3, rfl, by omega, by first | rfl | (congr 1; omega), rfl, by omega, by omega, Q, B⟩
      · obtain ⟨mm, rfl⟩ : ∃ mm, m = mm + 1 := ⟨m - 1, by omega⟩
        have d2 : decide (0 < ((mm + 1 : Nat) : Int)) = true := by simp
        obtain ⟨A, ⟨s, b⟩, hO'⟩ := (List.eq_nil_or_concat O).resolve_left (fun e => by have := Q.out.1; rw [e] at this; simp at this)
        have hO : O = A ++ [(s, b)] := by rw [hO', List.concat_eq_append]
        clear hO'
        have hA : A.length = mm := by have := Q.out.1; rw [hO] at this; simpa using this
        obtain ⟨g2, o2, rfl, hge, -⟩ := eqO_form Q.out (by omega)
        have hs : s < 65536 ∧ b < 65536 := hlt.out (s, b) (by rw [hO]; simp)
        have hgh := fun q => gap_hit x s q hs.1 hx
        have hFa := lossStep_far A s b x
        have hHi := lossStep_hit A s b x
        rw [hO] at Q
        rw [hO] at hT
        generalize gapN x s = gp at *
        clear hO hlt
        replace hFa := Lib.hid hFa
        replace hHi := Lib.hid hHi
        replace hs := Lib.hid hs
        replace hge := Lib.hid hge
        replace hA := Lib.hid hA
        replace hgh := Lib.hid hgh
        go_loopg [5, 6] 16 (fun m' dn i wx => ∃ (q : Nat), m' = 16 - q ∧ q ≤ 16 ∧ i = .int .i64 ((q : Int) + 1) ∧ dn = .bool (decide (1 ≤ gp ∧ gp ≤ q)) ∧ Hid (EQ EO 30 wx w.heap.size (.slice (some ⟨g2, o2, none⟩) (mm + 1) co) (mm + 1) (A ++ [(s, if 1 ≤ gp ∧ gp ≤ q then b ||| 2 ^ (gp - 1) else b)])) ∧ Hid (BW w wx))
        case atStart => exact ⟨0, by omega, by omega, rfl, by rw [decide_eq_false (by omega)], Lib.hid (by rw [if_neg (by omega)]; exact Q.out), B⟩
        case round =>
          clear Q B
          obtain ⟨q, rfl, hq, rfl, rfl, Q, B⟩ := hrel
          by_cases hq16 : q < 16
          · have d3 : decide ((q : Int) + 1 < 17) = true := by simp; omega
            obtain ⟨g3, o3, he, -, hc⟩ := eqO_form Q.out (by omega)
            obtain ⟨rfl, rfl⟩ : g2 = g3 ∧ o2 = o3 := by simpa using he
            clear he
            generalize hbv : (if 1 ≤ gp ∧ gp ≤ q then b ||| 2 ^ (gp - 1) else b) = bv at *
            have hcl := hc mm (by simp [hA.out])
            have hel : (A ++ [(s, bv)])[mm]'(by simp [hA.out]) = (s, bv) := by simp [← hA.out]
            rw [hel] at hcl
            obtain ⟨y0, y1⟩ := hcl
            dsimp only at y0 y1
            clear hc hel
            have z0 := B.out.cell x0.out
            have hge1 := hgh.out q hq16
            generalize hdq : decide (1 ≤ gp ∧ gp ≤ q) = dq at *
            have l0 : ∀ y : LaterS [] wr, y.now.cell? ⟨g, o + k, none⟩ = _ := fun y => y.bw.cell z0
            have l1 : ∀ y : LaterS [] wr, y.now.cell? ⟨g2, o2 + mm * 2, none⟩ = _ := fun y => y.bw.cell y0
            have l2 : ∀ y : LaterS [] wr, y.now.cell? ⟨g2, o2 + mm * 2 + 1, none⟩ = _ := fun y => y.bw.cell y1
            replace hbv := Lib.hid hbv
            replace hdq := Lib.hid hdq
            replace z0 := Lib.hid z0
            replace y0 := Lib.hid y0
            replace y1 := Lib.hid y1
            go_upto_region 9 with (fail)
            refine wp_region_gg [] [] [] (by kernel_rfl) ?_
            refine hoist [] [] (a1 := ?_) 0 rfl (by kernel_rfl) (.inl ⟨rfl, rfl⟩) rfl rfl rfl (fun x K hK => ?_) ?_
            rotate_left
            · go_big_quiet_op
              exact hK
            refine hoist [] [] (a1 := ?_) 1 rfl (by kernel_rfl) (.inl ⟨rfl, rfl⟩) rfl rfl rfl (fun x K hK => ?_) ?_
            rotate_left
            · go_big_quiet_op
              exact hK
            refine hoist [] [] (a1 := ?_) 2 rfl (by kernel_rfl) (.inl ⟨rfl, rfl⟩) rfl rfl rfl (fun x K hK => ?_) ?_
            rotate_left
            · go_big_quiet_op
              exact hK
            refine hoist [] [] (a1 := ?_) 3 rfl (by kernel_rfl) (.inl ⟨rfl, rfl⟩) rfl rfl rfl (fun x K hK => ?_) ?_
            rotate_left
            · go_big_quiet_op
              exact hK
            refine hoist [] [] (a1 := ?_) 4 rfl (by kernel_rfl) (.inl ⟨rfl, rfl⟩) rfl rfl rfl (fun x K hK => ?_) ?_
            rotate_left
            · go_big_quiet_op
              exact hK
            refine hoist [] [] (a1 := ?_) 5 rfl (by kernel_rfl) (.inl ⟨rfl, rfl⟩) rfl rfl rfl (fun x K hK => ?_) ?_
            rotate_left
            · go_big_quiet_op
              exact hK
            refine hoist [] [] (a1 := ?_) 6 rfl (by kernel_rfl) (.inl ⟨rfl, rfl⟩) rfl rfl rfl (fun x K hK => ?_) ?_
            rotate_left
            · go_big_quiet_op
              exact hK
            refine hoist [] [] (a1 := ?_) 7 rfl (by kernel_rfl) (.inl ⟨rfl, rfl⟩) rfl rfl rfl (fun x K hK => ?_) ?_
            rotate_left
            · go_big_quiet_op
              exact hK
            refine hoist [] [] (a1 := ?_) 8 rfl (by kernel_rfl) (.inl ⟨rfl, rfl⟩) rfl rfl rfl (fun x K hK => ?_) ?_
            rotate_left
            · go_big_quiet_op
              exact hK
            refine hoist [] [] (a1 := ?_) 9 rfl (by kernel_rfl) (.inl ⟨rfl, rfl⟩) rfl rfl rfl (fun x K hK => ?_) ?_
            rotate_left
            · go_big_quiet_op
              exact hK
            refine hoist [] [] (a1 := ?_) 10 rfl (by kernel_rfl) (.inl ⟨rfl, rfl⟩) rfl rfl rfl (fun x K hK => ?_) ?_
            rotate_left
            · go_big_quiet_op
              exact hK
            refine hoist [] [] (a1 := ?_) 11 rfl (by kernel_rfl) (.inl ⟨rfl, rfl⟩) rfl rfl rfl (fun x K hK => ?_) ?_
            rotate_left
            · go_big_quiet_op
              exact hK
            refine hoist [] [] (a1 := ?_) 12 rfl (by kernel_rfl) (.inl ⟨rfl, rfl⟩) rfl rfl rfl (fun x K hK => ?_) ?_
            rotate_left
            · go_big_quiet_op
              exact hK
            refine hoist [] [] (a1 := ?_) 13 rfl (by kernel_rfl) (.inl ⟨rfl, rfl⟩) rfl rfl rfl (fun x K hK => ?_) ?_
            rotate_left
            · go_big_quiet_op
              exact hK
            refine hoist [] [] (a1 := ?_) 14 rfl (by kernel_rfl) (.inl ⟨rfl, rfl⟩) rfl rfl rfl (fun x K hK => ?_) ?_
            rotate_left
            · go_big_quiet_op
              exact hK
            refine done (by kernel_rfl) (fun xr => ?_)
            have Q2 := Lib.hid (Q.out.bw xr.bw)
            have B2 := Lib.hid (B.out.trans xr.bw)
            have z1 := xr.bw.cell y1.out
            clear l0 l1 l2 Q B
            generalize xr.now = w2 at *
            by_cases hgq : gp = q + 1
            · have e1 : decide (gp = q + 1) = true := by simpa using hgq
              have hbv2 : bv = b := by rw [← hbv.out, if_neg (by omega)]
              rw [hbv2] at Q2 z1
              have hv := or_w b q hs.out.2 hq16
              have hiv : (if 1 ≤ gp ∧ gp ≤ q + 1 then b ||| 2 ^ (gp - 1) else b) = b ||| 2 ^ q := by rw [if_pos (by omega), hgq, Nat.add_sub_cancel]
              have hdn : decide (1 ≤ gp ∧ gp ≤ q + 1) = true := decide_eq_true (by omega)
              have f1 := Q2.out.frz (by omega) (o2 + mm * 2 + 1)
              replace hbv2 := Lib.hid hbv2
              replace hgq := Lib.hid hgq
              generalize b ||| 2 ^ q = c at *
              have Q3 := Lib.hid (Q2.out.bits hA.out (c := c))
              have B3 := Lib.hid (B2.out.stP (still_sc w2 g2 (o2 + mm * 2 + 1) (.int .u16 (c : Nat))) (fun j hj => by obtain rfl : j = g2 := (by simpa using hj); exact hge.out))
              replace hiv := Lib.hid hiv
              replace hdn := Lib.hid hdn
              clear Q2 B2
              go_wp2_with fail
              go_roundg (16 - (q + 1))
              case measure => omega
              case rel => exact ⟨q + 1, rfl, by omega, by first | rfl | (congr 1; omega), by rw [hdn.out], Lib.hid (by rw [hiv.out]; exact Q3.out), B3⟩
            · have e1 : decide (gp = q + 1) = false := by simpa using hgq
              have hdn : decide (1 ≤ gp ∧ gp ≤ q + 1) = dq := by rw [← hdq.out]; exact decide_eq_decide.2 (by omega)
              have hiv : (if 1 ≤ gp ∧ gp ≤ q + 1 then b ||| 2 ^ (gp - 1) else b) = bv := by
                rw [← hbv.out]
                by_cases hh : 1 ≤ gp ∧ gp ≤ q
                · rw [if_pos hh, if_pos (by omega)]
                · rw [if_neg hh, if_neg (by omega)]
              rw [← hiv] at Q2
              replace hiv := Lib.hid hiv
              replace hdn := Lib.hid hdn
              replace hgq := Lib.hid hgq
              go_wp2_with fail
              go_roundg (16 - (q + 1))
              case measure => omega
              case rel => exact ⟨q + 1, rfl, by omega, by first | rfl | (congr 1; omega), by rw [hdn.out], Q2, B2⟩
          · obtain rfl : q = 16 := by omega
            have d3 : decide (((16 : Nat) : Int) + 1 < 17) = false := by decide
            by_cases hg : 1 ≤ gp ∧ gp ≤ 16
            · have hF := hHi.out hg
              have e1 : decide (1 ≤ gp ∧ gp ≤ 16) = true := decide_eq_true hg
              rw [if_pos hg, ← hF, ← hT.out] at Q
              rw [e1]
              clear hF e1
              replace hg := Lib.hid hg
              go_wp2_with fail
              go_roundg (n - (k + 1))
              case measure => omega
              case rel => exact ⟨k + 1, mm + 1, _, co, rfl, by omega, by first | rfl | (congr 1; omega), rfl, by omega, by omega, Q, B⟩
            · have hF := Lib.hid (hFa.out hg)
              have e1 : decide (1 ≤ gp ∧ gp ≤ 16) = false := decide_eq_false hg
              rw [if_neg hg] at Q
              rw [e1]
              clear e1
              replace hg := Lib.hid hg
              have z0 := B.out.cell x0.out
              have BCq : BW wr (wr.alloc (.cells #[.int .u16 (x : Nat), .int .u16 0] 30)) := (BW.refl _).alloc
              have Lq := Lib.hid (Sls.new1 (E := EO) wr 30 [.int .u16 (x : Nat), .int .u16 0] rfl)
              replace Q := Lib.hid (Q.out.bw BCq)
              replace B := Lib.hid (B.out.trans BCq)
              have hzq := Lib.hid (B.out.size)
              replace BCq := Lib.hid BCq
              go_upto_region 4 with (at_builtin; go_must (refine wpList_apEQ slEO rfl _ _ rfl w.heap.size (.slice (some ⟨g2,o2,none⟩) (mm+1) co) (mm+1) (A ++ [(s, b)]) rfl Q.out _ rfl 1 [(x, 0)] [.int .u16 (x : Nat), .int .u16 0] Lq.out (EL.single rfl) rfl (by omega) hzq.out (fun _ _ => trivial) ?_; intro s3 c3 w3 hcq hmq Qn Tn hbn Gn; unfold maxLen at hmq; replace Qn := Lib.hid Qn; replace Tn := Lib.hid Tn; replace Gn := Lib.hid Gn; clear hbn))
              replace B := Lib.hid (BW.stP B.out Tn.out (fun j hj => Q.out.ge' j (by simpa using hj)))
              clear Q Tn Gn Lq hzq BCq
              have Q := Qn
              clear Qn
              rw [← hF.out, ← hT.out] at Q
              clear z0
              go_wp2_with fail
              go_roundg (n - (k + 1))
              case measure => omega
              case rel => exact ⟨k + 1, mm + 1 + 1, s3, c3, rfl, by omega, by first | rfl | (congr 1; omega), rfl, by omega, by omega, Q, B⟩
    · obtain rfl : k = n := by omega
      have hT : L.take k = L := by rw [← hln.out, List.take_length]
      rw [hT] at Q
      clear hT
      have d1 : decide ((k : Int) < (k : Int)) = false := by simp
      go_wp2_with fail
      go_ret
      exact ⟨so, m, co, rfl, Q.out, B.out⟩
end Go.Proofs.Ytcempndfbckcaaa
