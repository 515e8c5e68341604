/- The law SchedOnce. No condition. -/
import Derived.Test.YtcempndfbckcaaaSeI
import Derived.Test.YtcempndfbckcaaaSeK
import Derived.Test.YtcempndfbckcaaaRd
import Derived.Test.YtcempndfbckcaaaBs
namespace Go.Proofs.Ytcempndfbckcaaa
open Go.RowKit

theorem last_mono {at_ p t t2 : Int} (hp : 0 < p) (h1 : at_ ≤ t) (ht : t < t2) : lastS at_ p t ≤ lastS at_ p t2 := by
  unfold lastS
  rw [if_pos h1, if_pos (show at_ ≤ t2 by omega)]
  have k2 : (t - at_) / p ≤ (t2 - at_) / p := Int.ediv_le_ediv hp (by omega)
  have := Int.mul_le_mul_of_nonneg_right k2 (show 0 ≤ p by omega)
  omega
set_option maxRecDepth 100000 in
set_option maxHeartbeats 8000000 in
theorem law_sonce (at_ ea : Int) (a : Option Addr) (len cap : Nat) (w : World) (wa : (Lit.int .u8 at_).wf = true) (we : (Lit.int .u8 ea).wf = true) (wl : Rd w (.loop (.label 4)) [.slice a len cap]) :
    Calls Try.prog 12 #[.int .u8 at_, .int .u8 ea, .slice a len cap] w fun e w' => e = .returned (.bool true) ∧ Below w.heap.size w w' := by
  obtain ⟨a0, a1⟩ := bounds_u8 wa
  obtain ⟨b0, b1⟩ := bounds_u8 we
  obtain ⟨l, hv⟩ := SB_of_Rd wl
  obtain ⟨hlc, hcm, hll, hby⟩ := hv.unpack
  have hV := Lib.hid hv
  clear wa we wl hv
  have ha := Lib.hid (ts_alive w)
  replace hll := Lib.hid hll
  replace hby := Lib.hid hby
  go_enter Try.func12, Try.ntmps12
  go_wp2_with fail
  refine Calls.mono ha.out ?_
  rintro e w1 ⟨rfl, B1⟩
  have cN := Lib.hid (tnew_any w w1 B1)
  replace B1 := Lib.hid B1
  clear ha
  dsimp only
  go_wp2_with fail
  refine Calls.mono cN.out ?_
  rintro e w2 ⟨g0, rfl, I1, hg, hb⟩
  have c1 := Lib.hid (atA g0 0 none 0 [] _ [] at_ 0 1 bOnce rfl rfl (by omega) (by omega) (by decide) (by decide) (by decide) w w2 ⟨I1, B1.out.trans hb, hg⟩)
  clear cN I1 hg hb B1
  unfold bOnce at c1
  dsimp only
  go_wp2_with fail
  refine Calls.mono c1.out ?_
  rintro e w3 ⟨rfl, s3, cc3, H3, A3⟩
  have c2 := Lib.hid (atA g0 _ _ 1 _ _ _ at_ (ea + 1) 2 bOften (on_ins at_ (ea + 1)) rfl (by omega) (by omega) (by decide) (by show 1 < 64; decide) (by decide) w w3 A3)
  clear c1 A3
  unfold bOften at c2
  dsimp only
  go_wp2_with fail
  refine Calls.mono c2.out ?_
  rintro e w4 ⟨rfl, s4, cc4, H4, A4⟩
  replace A4 := Lib.hid A4
  clear c2
  dsimp only
  have hS0 : onS at_ (ea + 1) (-1) = [tkO at_, tkN at_ (ea + 1)] := if_neg (by omega)
  have hL0 : lastS at_ (ea + 1) (-1) = -1 := if_neg (by omega)
  have hT0 : decide (at_ ≤ -1) = false := decide_eq_false (by omega)
  replace hS0 := Lib.hid hS0
  replace hL0 := Lib.hid hL0
  replace hT0 := Lib.hid hT0
  go_upto_region 12 with (fail)
  go_loopg [12, 13, 14, 15] len (fun m' tv ov lv i wx => ∃ (j : Nat) (tk : Int) (sa : Option Addr) (cv : Nat) (H : List Tk), m' = len - j ∧ j ≤ len ∧ j ≤ 100 ∧ tv = .int .i64 tk ∧ ov = .bool (decide (at_ ≤ tk)) ∧ lv = .int .i64 (lastS at_ (ea + 1) tk) ∧ i = .int .i64 (j : Nat) ∧ -1 ≤ tk ∧ tk ≤ 9 * (j : Int) - 1 ∧ Hid (TabA w wx g0 sa cv 2 (onS at_ (ea + 1) tk) H))
  case atStart => exact ⟨0, -1, s4, cc4, H4, by omega, by omega, by omega, rfl, by rw [hT0.out], by rw [hL0.out], rfl, by omega, by omega, by rw [hS0.out]; exact A4⟩
  case round =>
    clear A4 hS0 hL0 hT0
    obtain ⟨j, tk, sa, cv, H, rfl, hj, hj1, rfl, rfl, rfl, rfl, ht0, ht1, A⟩ := hrel
    have B := Lib.hid A.out.b
    by_cases hjl : j < len
    case neg =>
      have d1 : decide ((j : Int) < (len : Int)) = false := by simp; omega
      go_wp2_with fail
      go_ret
      exact ⟨rfl, B.out⟩
    have d1 : decide ((j : Int) < (len : Int)) = true := by simp; omega
    by_cases hj2 : j < 100
    case neg =>
      have d2 : decide ((j : Int) < 100) = false := by simp; omega
      go_wp2_with fail
      go_ret
      exact ⟨rfl, B.out⟩
    have d2 : decide ((j : Int) < 100) = true := by simp; omega
    obtain ⟨b, o, cp, he, _, _, _, hc⟩ := (hV.out.bw B.out).form (by omega)
    cases he
    have x0 := hc j hjl
    have hx := hby.out.get j
    clear hc B
    generalize l.getD j 0 = x at *
    generalize hL9 : lastS at_ (ea + 1) tk = la at *
    generalize hT9 : decide (at_ ≤ tk) = td at *
    replace hL9 := Lib.hid hL9
    replace hT9 := Lib.hid hT9
    go_upto_region 15 with (fail)
    have htt : tk < tk + (x : Int) % 9 + 1 ∧ tk + (x : Int) % 9 + 1 ≤ 9 * ((j + 1 : Nat) : Int) - 1 := by push_cast; omega
    generalize tk + (x : Int) % 9 + 1 = t2 at *
    obtain ⟨ht2, ht3⟩ := htt
    clear x0 d1 d2
    obtain ⟨N, hNN⟩ : ∃ N, namS at_ (ea + 1) tk t2 = N := ⟨_, rfl⟩
    obtain ⟨n, hN⟩ : ∃ n, N.length = n := ⟨_, rfl⟩
    have hst := on_step (at_ := at_) (p := ea + 1) (t := tk) (t2 := t2) (by omega) ht2
    rw [hNN] at hst
    have hol := on_len at_ (ea + 1) tk
    have c1 := Lib.hid (dueA g0 cv sa 2 _ _ H t2 N n hst hN (by omega) (by omega) w wr A.out)
    replace hst := Lib.hid hst
    replace hNN := Lib.hid hNN
    replace hN := Lib.hid hN
    clear hol A
    go_wp2_with fail
    refine Calls.mono c1.out ?_
    rintro e w5 ⟨sb, cc, H5, so, co, rfl, Q5, A5, -⟩
    obtain ⟨_, _, he, hc1, hc2⟩ := Q5.len
    cases he
    unfold maxLen at hc2
    have c2 := Lib.hid (fun (y : World) (Y : BW w5 y) => dueA g0 cc sb 2 _ _ H5 t2 [] 0 (on_same (by omega)) rfl (by omega) (by have := on_len at_ (ea + 1) t2; omega) w y (A5.bw Y))
    replace Q5 := Lib.hid Q5
    replace A5 := Lib.hid A5
    clear c1
    dsimp only
    have hn2 : n ≤ 2 := by
      rw [← hN.out, ← hNN.out]
      unfold namS
      split
      · split <;> simp
      · split <;> simp
    go_upto_region 18 with (fail)
    go_loopg [17, 18, 19] n (fun m' ov fv k wx => ∃ q : Nat, m' = n - q ∧ q ≤ n ∧ ov = .int .i64 (cT ((N.map fun s => s.toList == [111, 110, 99, 101]).take q) : Nat) ∧ fv = .int .i64 (q - cT ((N.map fun s => s.toList == [111, 110, 99, 101]).take q) : Nat) ∧ k = .int .i64 (q : Nat) ∧ n ≤ 2 ∧ Hid (BW w5 wx))
    case atStart => exact ⟨0, by omega, by omega, rfl, rfl, rfl, hn2, BW.refl _⟩
    case round =>
      obtain ⟨q, rfl, hq, rfl, rfl, rfl, hn2, BQ⟩ := hrel
      have hle := cT_le ((N.map fun s => s.toList == [111, 110, 99, 101]).take q)
      rw [List.length_take, List.length_map, hN.out] at hle
      by_cases hqn : q < n
      · have e1 : decide ((q : Int) < (n : Int)) = true := by simp; omega
        obtain ⟨g9, o9, rfl, -, -, hcc⟩ := st_form (Q5.out.bw BQ.out) (by omega)
        have hqN : q < N.length := by rw [hN.out]; exact hqn
        have z0 := hcc q hqN
        have hsu := cT_suc (N.map fun s => s.toList == [111, 110, 99, 101]) q (by rw [List.length_map]; exact hqN)
        rw [List.getElem_map] at hsu
        clear hcc
        generalize N[q] = s at *
        generalize cT ((N.map fun s => s.toList == [111, 110, 99, 101]).take q) = ct at *
        cases hs : (s.toList == [111, 110, 99, 101]) with
        | true =>
          rw [hs, if_pos rfl] at hsu
          replace hsu := Lib.hid hsu
          go_wp2_with fail
          go_roundg (n - (q + 1))
          case measure => omega
          case rel => exact ⟨q + 1, rfl, by omega, by rw [hsu.out]; push_cast; rfl, by rw [hsu.out, show q + 1 - (ct + 1) = q - ct by omega], by push_cast; rfl, hn2, BQ⟩
        | false =>
          rw [hs, if_neg (by decide)] at hsu
          replace hsu := Lib.hid hsu
          have e2 : ((q - ct : Nat) : Int) + 1 = ((q + 1 - ct : Nat) : Int) := by omega
          go_wp2_with fail
          go_roundg (n - (q + 1))
          case measure => omega
          case rel => exact ⟨q + 1, rfl, by omega, by rw [hsu.out]; rfl, by rw [hsu.out]; rfl, by push_cast; rfl, hn2, BQ⟩
      · obtain rfl : q = n := by omega
        have e1 : decide ((q : Int) < (q : Int)) = false := by simp
        rw [List.take_of_length_le (by rw [List.length_map, hN.out]; exact Nat.le_refl _)]
        have c3 := Lib.hid (c2.out wr BQ.out)
        clear c2 hle
        by_cases h1 : at_ ≤ tk
        · have h2 : at_ ≤ t2 := by omega
          obtain rfl : td = true := by rw [← hT9.out]; exact decide_eq_true h1
          have hmo := on_more (p := ea + 1) (by omega) h1 ht2
          rw [hL9.out] at hmo
          by_cases hu : uN at_ (ea + 1) tk ≤ t2
          · have hNv : N = [bOften] := by rw [← hNN.out]; unfold namS; rw [if_pos h1, if_pos hu]
            obtain rfl : q = 1 := by rw [← hN.out, hNv]; rfl
            have hct : cT (N.map fun s => s.toList == [111, 110, 99, 101]) = 0 := by rw [hNv]; decide +kernel
            rw [decide_eq_true hu] at hmo
            rw [hct]
            have hq : (t2 - at_).tdiv (ea + 1) = (t2 - at_) / (ea + 1) := Int.tdiv_eq_ediv_of_nonneg (by omega)
            have hl2 : lastS at_ (ea + 1) t2 = at_ + (t2 - at_) / (ea + 1) * (ea + 1) := if_pos h2
            have k1 := Int.ediv_mul_le (t2 - at_) (b := ea + 1) (by omega)
            have k0 : 0 ≤ (t2 - at_) / (ea + 1) := Int.ediv_nonneg (by omega) (by omega)
            have k4 : (t2 - at_) / (ea + 1) ≤ t2 - at_ := Int.ediv_le_self _ (by omega)
            have k3 : 0 ≤ (t2 - at_) / (ea + 1) * (ea + 1) := Int.mul_nonneg k0 (by omega)
            generalize (t2 - at_) / (ea + 1) = qq at *
            have q1 : IntKind.i64.wrap (t2 - at_) = t2 - at_ := IntWalk.i64_in _ (by omega)
            have q2 : IntKind.i64.wrap qq = qq := IntWalk.i64_in _ (by omega)
            have q3 : IntKind.i64.wrap (qq * (ea + 1)) = qq * (ea + 1) := IntWalk.i64_in _ (by omega)
            have q4 : IntKind.i64.wrap (at_ + qq * (ea + 1)) = at_ + qq * (ea + 1) := IntWalk.i64_in _ (by omega)
            have q5 : ((ea + 1) == 0) = false := by simp; omega
            have e2 : decide (at_ ≤ t2) = true := decide_eq_true h2
            rw [hl2] at hmo
            replace hNv := Lib.hid hNv
            replace hct := Lib.hid hct
            replace hl2 := Lib.hid hl2
            go_wp2_with fail
            refine Calls.mono c3.out ?_
            rintro e w8 ⟨sb8, cc8, H8, so8, co8, rfl, -, A8, -⟩
            replace A8 := Lib.hid A8
            clear c3
            dsimp only
            go_wp2_with fail
            go_roundg (len - (j + 1))
            case measure => omega
            case rel => exact ⟨j + 1, t2, sb8, cc8, H8, rfl, by omega, by omega, rfl, by rw [e2], by rw [hl2.out], by push_cast; rfl, by omega, ht3, A8⟩
          · have hNv : N = [] := by rw [← hNN.out]; unfold namS; rw [if_pos h1, if_neg hu]
            obtain rfl : q = 0 := by rw [← hN.out, hNv]; rfl
            have hct : cT (N.map fun s => s.toList == [111, 110, 99, 101]) = 0 := by rw [hNv]; rfl
            have hls := last_mono (p := ea + 1) (by omega) h1 ht2
            rw [hL9.out] at hls
            have hmo2 := of_decide_eq_false (hmo.trans (decide_eq_false hu))
            have hla : lastS at_ (ea + 1) t2 = la := by omega
            rw [decide_eq_false hu] at hmo
            rw [hct]
            have hq : (t2 - at_).tdiv (ea + 1) = (t2 - at_) / (ea + 1) := Int.tdiv_eq_ediv_of_nonneg (by omega)
            have hl2 : lastS at_ (ea + 1) t2 = at_ + (t2 - at_) / (ea + 1) * (ea + 1) := if_pos h2
            have k1 := Int.ediv_mul_le (t2 - at_) (b := ea + 1) (by omega)
            have k0 : 0 ≤ (t2 - at_) / (ea + 1) := Int.ediv_nonneg (by omega) (by omega)
            have k4 : (t2 - at_) / (ea + 1) ≤ t2 - at_ := Int.ediv_le_self _ (by omega)
            have k3 : 0 ≤ (t2 - at_) / (ea + 1) * (ea + 1) := Int.mul_nonneg k0 (by omega)
            generalize (t2 - at_) / (ea + 1) = qq at *
            have q1 : IntKind.i64.wrap (t2 - at_) = t2 - at_ := IntWalk.i64_in _ (by omega)
            have q2 : IntKind.i64.wrap qq = qq := IntWalk.i64_in _ (by omega)
            have q3 : IntKind.i64.wrap (qq * (ea + 1)) = qq * (ea + 1) := IntWalk.i64_in _ (by omega)
            have q4 : IntKind.i64.wrap (at_ + qq * (ea + 1)) = at_ + qq * (ea + 1) := IntWalk.i64_in _ (by omega)
            have q5 : ((ea + 1) == 0) = false := by simp; omega
            have e2 : decide (at_ ≤ t2) = true := decide_eq_true h2
            rw [hl2] at hmo hla hls hmo2
            have hla2 := hla
            replace hNv := Lib.hid hNv
            replace hct := Lib.hid hct
            replace hl2 := Lib.hid hl2
            replace hla := Lib.hid hla
            replace hls := Lib.hid hls
            replace hmo2 := Lib.hid hmo2
            replace hla2 := Lib.hid hla2
            go_wp2_with fail
            refine Calls.mono c3.out ?_
            rintro e w8 ⟨sb8, cc8, H8, so8, co8, rfl, -, A8, -⟩
            replace A8 := Lib.hid A8
            clear c3
            dsimp only
            go_wp2_with fail
            go_roundg (len - (j + 1))
            case measure => omega
            case rel => exact ⟨j + 1, t2, sb8, cc8, H8, rfl, by omega, by omega, rfl, by rw [e2], by rw [hl2.out, hla.out], by push_cast; rfl, by omega, ht3, A8⟩
        · obtain rfl : td = false := by rw [← hT9.out]; exact decide_eq_false h1
          obtain rfl : la = -1 := by rw [← hL9.out]; exact if_neg h1
          by_cases h2 : at_ ≤ t2
          · have hNv : N = [bOnce, bOften] := by rw [← hNN.out]; unfold namS; rw [if_neg h1, if_pos h2]
            obtain rfl : q = 2 := by rw [← hN.out, hNv]; rfl
            have hct : cT (N.map fun s => s.toList == [111, 110, 99, 101]) = 1 := by rw [hNv]; decide +kernel
            rw [hct]
            have hq : (t2 - at_).tdiv (ea + 1) = (t2 - at_) / (ea + 1) := Int.tdiv_eq_ediv_of_nonneg (by omega)
            have hl2 : lastS at_ (ea + 1) t2 = at_ + (t2 - at_) / (ea + 1) * (ea + 1) := if_pos h2
            have k1 := Int.ediv_mul_le (t2 - at_) (b := ea + 1) (by omega)
            have k0 : 0 ≤ (t2 - at_) / (ea + 1) := Int.ediv_nonneg (by omega) (by omega)
            have k4 : (t2 - at_) / (ea + 1) ≤ t2 - at_ := Int.ediv_le_self _ (by omega)
            have k3 : 0 ≤ (t2 - at_) / (ea + 1) * (ea + 1) := Int.mul_nonneg k0 (by omega)
            generalize (t2 - at_) / (ea + 1) = qq at *
            have q1 : IntKind.i64.wrap (t2 - at_) = t2 - at_ := IntWalk.i64_in _ (by omega)
            have q2 : IntKind.i64.wrap qq = qq := IntWalk.i64_in _ (by omega)
            have q3 : IntKind.i64.wrap (qq * (ea + 1)) = qq * (ea + 1) := IntWalk.i64_in _ (by omega)
            have q4 : IntKind.i64.wrap (at_ + qq * (ea + 1)) = at_ + qq * (ea + 1) := IntWalk.i64_in _ (by omega)
            have q5 : ((ea + 1) == 0) = false := by simp; omega
            have e2 : decide (at_ ≤ t2) = true := decide_eq_true h2
            have hmo : decide (-1 < at_ + qq * (ea + 1)) = true := decide_eq_true (by omega)
            replace hNv := Lib.hid hNv
            replace hct := Lib.hid hct
            replace hl2 := Lib.hid hl2
            go_wp2_with fail
            refine Calls.mono c3.out ?_
            rintro e w8 ⟨sb8, cc8, H8, so8, co8, rfl, -, A8, -⟩
            replace A8 := Lib.hid A8
            clear c3
            dsimp only
            go_wp2_with fail
            go_roundg (len - (j + 1))
            case measure => omega
            case rel => exact ⟨j + 1, t2, sb8, cc8, H8, rfl, by omega, by omega, rfl, by rw [e2], by rw [hl2.out], by push_cast; rfl, by omega, ht3, A8⟩
          · have hNv : N = [] := by rw [← hNN.out]; unfold namS; rw [if_neg h1, if_neg h2]
            obtain rfl : q = 0 := by rw [← hN.out, hNv]; rfl
            have hct : cT (N.map fun s => s.toList == [111, 110, 99, 101]) = 0 := by rw [hNv]; rfl
            have e2 : decide (at_ ≤ t2) = false := decide_eq_false h2
            have hl2 : lastS at_ (ea + 1) t2 = -1 := if_neg h2
            rw [hct]
            replace hNv := Lib.hid hNv
            replace hct := Lib.hid hct
            replace hl2 := Lib.hid hl2
            go_wp2_with fail
            refine Calls.mono c3.out ?_
            rintro e w8 ⟨sb8, cc8, H8, so8, co8, rfl, -, A8, -⟩
            replace A8 := Lib.hid A8
            clear c3
            dsimp only
            go_wp2_with fail
            go_roundg (len - (j + 1))
            case measure => omega
            case rel => exact ⟨j + 1, t2, sb8, cc8, H8, rfl, by omega, by omega, rfl, by rw [e2], by rw [hl2.out], by push_cast; rfl, by omega, ht3, A8⟩
end Go.Proofs.Ytcempndfbckcaaa
