/- rtcp.Read: of packets one behind the other that their readers read whole. No condition but the sizes'. -/
import Derived.Test.YtcempndfbckcaaaRcG
import Derived.Test.YtcempndfbckcaaaIns
import Derived.Defers
import Derived.Recover
namespace Go.Proofs.Ytcempndfbckcaaa
open Go.RowKit

set_option maxRecDepth 100000 in
set_option maxHeartbeats 8000000 in
theorem rd_idle (p q : Addr) (w : World) :
    CallsD Try.prog 89 #[.pointer (some p), .pointer (some q)] .returning w fun e u' w' => e = .returned (.tuple #[]) ∧ u' = .returning ∧ w' = w := by
  refine callsD_of_wpS Try.func89 rfl fun c₀ cs hu => ?_
  apply wpS_seq
  apply wpS_region
  simp [wpOpsS, go_sem, recoverD, hu, Try.ntmps89, Exit.thenS]
  refine wpS_of_wp ?_
  simp only [Array.replicate, List.replicate, List.setIfInBounds_toArray, List.set_cons_zero, List.set_cons_succ, List.append_toArray, List.cons_append, List.nil_append]
  go_wp2_with fail
  cases c₀
  simp_all [bodyPostS, results, Try.results89, Exit.thenS]
theorem SB.takeH {w : World} {a : Option Addr} {n cap : Nat} {l : List Nat} (h : SB w (.slice a n cap) n l) (k : Nat) (hk : k ≤ n) : SB w (.slice a k cap) k (l.take k) := by
  obtain ⟨sa, c, he, hc, hm⟩ := h.len
  cases he
  have h1 := h.cut 0 k cap (Nat.zero_le _) hk (by omega) (Nat.le_refl _)
  simpa [cutA_zero] using h1
theorem PartOk.num {b : List Nat} {c : Ctl} (h : PartOk b c) : ∃ q, b.length = 4 + 4 * q ∧ q ≤ 65535 ∧ ∀ r, numB (((b ++ r).drop 2).take 2) = q := by
  obtain ⟨i, cnt, t, x, y, k, l, F, _, _, _, _, _, hx, hy, _, _, _, rfl, hl⟩ := h
  refine ⟨256 * x + y, by simp [hl]; omega, by omega, fun r => ?_⟩
  simp [numB]
  try omega
/-- The bytes that are left behind k packets. -/
def restB (L : List (List Nat × Ctl)) (k : Nat) : List Nat := ((L.drop k).map Prod.fst).flatten
theorem restB_succ (L : List (List Nat × Ctl)) (k : Nat) (h : k < L.length) : restB L k = (L[k]).1 ++ restB L (k + 1) := by
  unfold restB
  rw [List.drop_eq_getElem_cons h, List.map_cons, List.flatten_cons]
theorem restB_end (L : List (List Nat × Ctl)) : restB L L.length = [] := by simp [restB]

set_option maxRecDepth 100000 in
set_option maxHeartbeats 8000000 in
theorem Read_ok (L : List (List Nat × Ctl)) (hL : ∀ p ∈ L, PartOk p.1 p.2) (h1 : 1 ≤ L.length) (h8 : L.length ≤ 8) (v : Value) (n : Nat) (hn : n ≤ 1200) (w : World) (hv : SB w v n (restB L 0)) :
    Calls Try.prog 55 #[v] w fun e w' => ∃ so co, e = .returned (.tuple #[.slice so L.length co, .int .i64 0]) ∧ EQ EC 111 w' w.heap.size (.slice so L.length co) L.length (L.map Prod.snd) ∧ BW w w' := by
  have hmf : ∀ (fn : Fn) (first cap : Array Value) (w : World), (Instr.makeFunc fn first cap).run Try.prog w = .ok (.func fn first cap) w := fun _ _ _ _ => rfl
  obtain ⟨sa, cap, rfl, hcap, hm⟩ := hv.len
  unfold maxLen at hm
  generalize hNL : L.length = N at *
  have B1 : BW w (w.alloc (.cells #[.slice none 0 0] 95)) := (BW.refl w).alloc
  have B2 : BW (w.alloc (.cells #[.slice none 0 0] 95)) ((w.alloc (.cells #[.slice none 0 0] 95)).alloc (.cells #[.int .i64 0] 37)) := (BW.refl _).alloc
  have P2 := Lib.hid ((HpB.new w (.cells #[.slice none 0 0] 95)).bw B2)
  have Q2 := Lib.hid (show HpB _ (w.heap.size + 1) _ from hp_new (w.alloc (.cells #[.slice none 0 0] 95)) (.cells #[.int .i64 0] 37) (w.heap.size + 1) (by simp))
  have B3 := Lib.hid (B1.trans B2)
  clear B1 B2
  replace hv := Lib.hid hv
  replace hNL := Lib.hid hNL
  go_enter_defers Try.func55, Try.ntmps55
  go_upto_region 2 with (fail)
  generalize (w.alloc _).alloc _ = w2 at *
  clear hmf
  have hle : decide ((n : Int) ≤ 1200) = true := by simp; omega
  go_wp2_with fail
  refine Calls.mono (need_ok w2) ?_
  rintro e w' ⟨rfl, rfl⟩
  dsimp only
  go_upto_region 4 with (fail)
  have hlt2 := Q2.out.lt
  go_loopg [0, 4] (N + 1) (fun m' b l wx => ∃ (k m : Nat) (s0 : Option Addr) (c0 : Nat) (so : Option Addr) (co : Nat), m' = N + 1 - k ∧ k ≤ N ∧ b = .slice s0 m c0 ∧ l = .slice so k co ∧ m ≤ c0 ∧ c0 ≤ 9223372036854775807 ∧ co ≤ 9223372036854775807 ∧ Hid (SB w2 (.slice s0 m c0) m (restB L k)) ∧ Hid (EQ EC 111 wx w2.heap.size (.slice so k co) k ((L.take k).map Prod.snd)) ∧ Hid (BW w2 wx))
  case atStart => exact ⟨0, n, sa, cap, none, 0, by omega, by omega, rfl, rfl, by omega, by omega, by omega, hv.out.bw B3.out, EQ.nil _ _ _ _, BW.refl _⟩
  case round =>
    clear hv
    obtain ⟨k, m, s0, c0, so, co, rfl, hk, rfl, rfl, hmc, hc0, hco, V, Q, B⟩ := hrel
    by_cases hkN : k < N
    · have hkL : k < L.length := by rw [hNL.out]; exact hkN
      have hP := hL _ (List.getElem_mem hkL)
      have hrs := restB_succ L k hkL
      have htk : (L.take (k + 1)).map Prod.snd = (L.take k).map Prod.snd ++ [(L[k]).2] := by
        rw [List.take_add_one, List.getElem?_eq_getElem hkL, List.map_append]; rfl
      obtain ⟨q, hq1, hq2, hq3⟩ := hP.num
      rw [hrs] at V
      have hml : m = 4 + 4 * q + (restB L (k + 1)).length := by have := V.out.1; rw [List.length_append, hq1] at this; omega
      generalize hpc : L[k] = pc at *
      obtain ⟨pb, c⟩ := pc
      dsimp only at *
      generalize hR1 : restB L (k + 1) = r1 at *
      generalize hR2 : r1.length = rl at *
      have cn := num_ok (.slice s0 m c0) m (pb ++ r1) 2 2 2 2 (by omega) (by omega) (by omega) rfl rfl wr (V.out.bw B.out)
      rw [hq3 r1] at cn
      have V4 := V.out.takeH (4 + 4 * q) (by omega)
      rw [List.take_left' hq1] at V4
      have V5 := V.out.cut (4 + 4 * q) m c0 (by omega) (Nat.le_refl _) hmc (Nat.le_refl _)
      rw [show ((pb ++ r1).drop (4 + 4 * q)).take (m - (4 + 4 * q)) = r1 from by rw [List.drop_left' hq1]; exact List.take_of_length_le (by omega)] at V5
      have cp := packet_ok pb c hP (.slice s0 (4 + 4 * q) c0) (4 + 4 * q) wr (V4.bw B.out)
      have hch := fun w => run_cut_h (P := Try.prog) Try.underlying36 info_u8 s0 m c0 (4 + 4 * q) (4 + 4 * (q : Int)) (by push_cast; rfl) .i64 (by omega) w
      have hcl := fun w => run_cut_l (P := Try.prog) Try.underlying36 info_u8 s0 m c0 (4 + 4 * q) (4 + 4 * (q : Int)) (by push_cast; rfl) .i64 (by omega) w
      have d3 : decide ((m : Int) < 4 + 4 * (q : Int)) = false := by simp; omega
      have d4 : decide ((k : Int) < 8) = true := by simp; omega
      have q2 : (q : Int) ≤ 65535 := by omega
      have k8 : k < 8 := by omega
      have hcap2 : m - (4 + 4 * q) ≤ c0 - (4 + 4 * q) := by omega
      generalize hm1 : m - (4 + 4 * q) = m1 at *
      generalize hc1 : c0 - (4 + 4 * q) = c1 at *
      have hc1b : c1 ≤ 9223372036854775807 := by omega
      have hm0 : 0 < m := by omega
      generalize cutA s0 (4 + 4 * q) c0 1 = s1 at *
      replace cn := Lib.hid cn
      replace V5 := Lib.hid V5
      replace cp := Lib.hid cp
      replace hm1 := Lib.hid hm1
      replace hc1 := Lib.hid hc1
      replace hrs := Lib.hid hrs
      replace htk := Lib.hid htk
      replace hP := Lib.hid hP
      replace hq1 := Lib.hid hq1
      replace hq2 := Lib.hid hq2
      replace hq3 := Lib.hid hq3
      replace hml := Lib.hid hml
      replace hpc := Lib.hid hpc
      replace hR1 := Lib.hid hR1
      replace hR2 := Lib.hid hR2
      replace h1 := Lib.hid h1
      replace h8 := Lib.hid h8
      clear V4
      by_cases hk0 : k = 0
      · have d1 : ((k : Int) == 0) = true := by simp; omega
        clear hk0
        go_upto_region 5 with (fail)
        go_wp2_with fail
        refine Calls.mono cn.out ?_
        rintro e w' ⟨rfl, rfl⟩
        dsimp only
        go_upto_region 9 with (fail)
        go_wp2_with fail
        refine Calls.mono (need_ok wr) ?_
        rintro e w' ⟨rfl, rfl⟩
        dsimp only
        go_upto_region 10 with (fail)
        go_wp2_with fail
        refine Calls.mono cp.out ?_
        rintro e w4 ⟨vr, vn, vs, vl, vf, rfl, C4, hb⟩
        obtain ⟨sr, cr, rfl, _, _⟩ := C4.r.len
        obtain ⟨sn, cn2, rfl, _, _⟩ := C4.n.len
        obtain ⟨ss, cs, rfl, _, _⟩ := C4.s.len
        obtain ⟨sl, cl, rfl, _, _⟩ := C4.l.len
        obtain ⟨sf, cf, rfl, _, _⟩ := C4.f.len
        have B4 := Lib.hid (B.out.trans hb)
        have Q4 := Lib.hid (Q.out.bw hb)
        replace C4 := Lib.hid (C4.up B.out.size)
        clear hb cp cn
        unfold ctlC
        dsimp only
        generalize hnr : c.reps.length = nr at *
        generalize hnn : c.nams.length = nn at *
        generalize hns : c.srcs.length = ns at *
        generalize hnl : c.loss.length = nl at *
        generalize hnf : c.firs.length = nf at *
        have BE : BW w4 (w4.alloc (.cells #[.int .i64 c.k, .int .u32 (c.s : Nat), .int .u32 (c.m : Nat), .int .u64 (c.t : Nat), .int .u32 (c.st : Nat), .int .u32 (c.pk : Nat), .int .u32 (c.oc : Nat), .slice sr nr cr, .slice sn nn cn2, .slice ss ns cs, .slice sl nl cl, .slice sf nf cf, .int .u64 (c.rt : Nat)] 111)) := (BW.refl _).alloc
        have L5 := Lib.hid (Sls.new1 (E := EC) w4 111 [.int .i64 c.k, .int .u32 (c.s : Nat), .int .u32 (c.m : Nat), .int .u64 (c.t : Nat), .int .u32 (c.st : Nat), .int .u32 (c.pk : Nat), .int .u32 (c.oc : Nat), .slice sr nr cr, .slice sn nn cn2, .slice ss ns cs, .slice sl nl cl, .slice sf nf cf, .int .u64 (c.rt : Nat)] rfl)
        have B5 := Lib.hid (B4.out.trans BE)
        have Q5 := Lib.hid (Q4.out.bw BE)
        have R5 : Hid (EC.R (w4.alloc (.cells #[.int .i64 c.k, .int .u32 (c.s : Nat), .int .u32 (c.m : Nat), .int .u64 (c.t : Nat), .int .u32 (c.st : Nat), .int .u32 (c.pk : Nat), .int .u32 (c.oc : Nat), .slice sr nr cr, .slice sn nn cn2, .slice ss ns cs, .slice sl nl cl, .slice sf nf cf, .int .u64 (c.rt : Nat)] 111)) w2.heap.size c [.int .i64 c.k, .int .u32 (c.s : Nat), .int .u32 (c.m : Nat), .int .u64 (c.t : Nat), .int .u32 (c.st : Nat), .int .u32 (c.pk : Nat), .int .u32 (c.oc : Nat), .slice sr nr cr, .slice sn nn cn2, .slice ss ns cs, .slice sl nl cl, .slice sf nf cf, .int .u64 (c.rt : Nat)]) := by
          refine ⟨_, _, _, _, _, ?_, C4.out.bw BE⟩
          rw [← hnr, ← hnn, ← hns, ← hnl, ← hnf]
          rfl
        have hz5 := Lib.hid (B5.out.size)
        have hOk5 : Hid (∀ j ∈ (Value.slice so k co).ownBlock.toList, EC.Ok (w4.alloc (.cells #[.int .i64 c.k, .int .u32 (c.s : Nat), .int .u32 (c.m : Nat), .int .u64 (c.t : Nat), .int .u32 (c.st : Nat), .int .u32 (c.pk : Nat), .int .u32 (c.oc : Nat), .slice sr nr cr, .slice sn nn cn2, .slice ss ns cs, .slice sl nl cl, .slice sf nf cf, .int .u64 (c.rt : Nat)] 111)) j) := fun j hj => by
          obtain ⟨cs', h⟩ := Q5.out.row j (by simpa using hj)
          exact .inr ⟨_, _, _, h, by decide, by decide, by decide, by decide, by decide⟩
        clear B4 Q4 C4
        replace BE := Lib.hid BE
        replace hnr := Lib.hid hnr
        replace hnn := Lib.hid hnn
        replace hns := Lib.hid hns
        replace hnl := Lib.hid hnl
        replace hnf := Lib.hid hnf
        go_upto_region 11 with (at_builtin; go_must (refine wpList_apEQ slEC rfl _ _ rfl w2.heap.size (.slice so k co) k ((L.take k).map Prod.snd) rfl Q5.out _ rfl 1 [c] [.int .i64 c.k, .int .u32 (c.s : Nat), .int .u32 (c.m : Nat), .int .u64 (c.t : Nat), .int .u32 (c.st : Nat), .int .u32 (c.pk : Nat), .int .u32 (c.oc : Nat), .slice sr nr cr, .slice sn nn cn2, .slice ss ns cs, .slice sl nl cl, .slice sf nf cf, .int .u64 (c.rt : Nat)] L5.out (EL.single R5.out) rfl (by omega) hz5.out hOk5.out ?_; intro s6 c6 w6 hc6 hm6 Q6 T6 hb6 G6; unfold maxLen at hm6; replace Q6 := Lib.hid Q6; replace T6 := Lib.hid T6))
        have B6 := Lib.hid (B5.out.stP T6.out (fun j hj => Q5.out.ge' j (by simpa using hj)))
        clear B5 Q5 L5 R5 hz5 hOk5 hb6 G6 T6 BE
        go_wp2_with fail
        go_roundg (N + 1 - (k + 1))
        case measure => omega
        case rel => exact ⟨k + 1, m1, s1, c1, s6, c6, rfl, by omega, rfl, (by first | rfl | (congr 1; omega)), hcap2, hc1b, by omega, Lib.hid (by rw [hR1.out]; exact V5.out), Lib.hid (by rw [htk.out]; exact Q6.out), B6⟩
      · have d1 : ((k : Int) == 0) = false := by simp; omega
        have d2 : decide (0 < (m : Int)) = true := by simpa using hm0
        go_upto_region 5 with (fail)
        go_wp2_with fail
        refine Calls.mono cn.out ?_
        rintro e w' ⟨rfl, rfl⟩
        dsimp only
        go_upto_region 9 with (fail)
        go_wp2_with fail
        refine Calls.mono (need_ok wr) ?_
        rintro e w' ⟨rfl, rfl⟩
        dsimp only
        go_upto_region 10 with (fail)
        go_wp2_with fail
        refine Calls.mono cp.out ?_
        rintro e w4 ⟨vr, vn, vs, vl, vf, rfl, C4, hb⟩
        obtain ⟨sr, cr, rfl, _, _⟩ := C4.r.len
        obtain ⟨sn, cn2, rfl, _, _⟩ := C4.n.len
        obtain ⟨ss, cs, rfl, _, _⟩ := C4.s.len
        obtain ⟨sl, cl, rfl, _, _⟩ := C4.l.len
        obtain ⟨sf, cf, rfl, _, _⟩ := C4.f.len
        have B4 := Lib.hid (B.out.trans hb)
        have Q4 := Lib.hid (Q.out.bw hb)
        replace C4 := Lib.hid (C4.up B.out.size)
        clear hb cp cn
        unfold ctlC
        dsimp only
        generalize hnr : c.reps.length = nr at *
        generalize hnn : c.nams.length = nn at *
        generalize hns : c.srcs.length = ns at *
        generalize hnl : c.loss.length = nl at *
        generalize hnf : c.firs.length = nf at *
        have BE : BW w4 (w4.alloc (.cells #[.int .i64 c.k, .int .u32 (c.s : Nat), .int .u32 (c.m : Nat), .int .u64 (c.t : Nat), .int .u32 (c.st : Nat), .int .u32 (c.pk : Nat), .int .u32 (c.oc : Nat), .slice sr nr cr, .slice sn nn cn2, .slice ss ns cs, .slice sl nl cl, .slice sf nf cf, .int .u64 (c.rt : Nat)] 111)) := (BW.refl _).alloc
        have L5 := Lib.hid (Sls.new1 (E := EC) w4 111 [.int .i64 c.k, .int .u32 (c.s : Nat), .int .u32 (c.m : Nat), .int .u64 (c.t : Nat), .int .u32 (c.st : Nat), .int .u32 (c.pk : Nat), .int .u32 (c.oc : Nat), .slice sr nr cr, .slice sn nn cn2, .slice ss ns cs, .slice sl nl cl, .slice sf nf cf, .int .u64 (c.rt : Nat)] rfl)
        have B5 := Lib.hid (B4.out.trans BE)
        have Q5 := Lib.hid (Q4.out.bw BE)
        have R5 : Hid (EC.R (w4.alloc (.cells #[.int .i64 c.k, .int .u32 (c.s : Nat), .int .u32 (c.m : Nat), .int .u64 (c.t : Nat), .int .u32 (c.st : Nat), .int .u32 (c.pk : Nat), .int .u32 (c.oc : Nat), .slice sr nr cr, .slice sn nn cn2, .slice ss ns cs, .slice sl nl cl, .slice sf nf cf, .int .u64 (c.rt : Nat)] 111)) w2.heap.size c [.int .i64 c.k, .int .u32 (c.s : Nat), .int .u32 (c.m : Nat), .int .u64 (c.t : Nat), .int .u32 (c.st : Nat), .int .u32 (c.pk : Nat), .int .u32 (c.oc : Nat), .slice sr nr cr, .slice sn nn cn2, .slice ss ns cs, .slice sl nl cl, .slice sf nf cf, .int .u64 (c.rt : Nat)]) := by
          refine ⟨_, _, _, _, _, ?_, C4.out.bw BE⟩
          rw [← hnr, ← hnn, ← hns, ← hnl, ← hnf]
          rfl
        have hz5 := Lib.hid (B5.out.size)
        have hOk5 : Hid (∀ j ∈ (Value.slice so k co).ownBlock.toList, EC.Ok (w4.alloc (.cells #[.int .i64 c.k, .int .u32 (c.s : Nat), .int .u32 (c.m : Nat), .int .u64 (c.t : Nat), .int .u32 (c.st : Nat), .int .u32 (c.pk : Nat), .int .u32 (c.oc : Nat), .slice sr nr cr, .slice sn nn cn2, .slice ss ns cs, .slice sl nl cl, .slice sf nf cf, .int .u64 (c.rt : Nat)] 111)) j) := fun j hj => by
          obtain ⟨cs', h⟩ := Q5.out.row j (by simpa using hj)
          exact .inr ⟨_, _, _, h, by decide, by decide, by decide, by decide, by decide⟩
        clear B4 Q4 C4
        replace BE := Lib.hid BE
        replace hnr := Lib.hid hnr
        replace hnn := Lib.hid hnn
        replace hns := Lib.hid hns
        replace hnl := Lib.hid hnl
        replace hnf := Lib.hid hnf
        go_upto_region 11 with (at_builtin; go_must (refine wpList_apEQ slEC rfl _ _ rfl w2.heap.size (.slice so k co) k ((L.take k).map Prod.snd) rfl Q5.out _ rfl 1 [c] [.int .i64 c.k, .int .u32 (c.s : Nat), .int .u32 (c.m : Nat), .int .u64 (c.t : Nat), .int .u32 (c.st : Nat), .int .u32 (c.pk : Nat), .int .u32 (c.oc : Nat), .slice sr nr cr, .slice sn nn cn2, .slice ss ns cs, .slice sl nl cl, .slice sf nf cf, .int .u64 (c.rt : Nat)] L5.out (EL.single R5.out) rfl (by omega) hz5.out hOk5.out ?_; intro s6 c6 w6 hc6 hm6 Q6 T6 hb6 G6; unfold maxLen at hm6; replace Q6 := Lib.hid Q6; replace T6 := Lib.hid T6))
        have B6 := Lib.hid (B5.out.stP T6.out (fun j hj => Q5.out.ge' j (by simpa using hj)))
        clear B5 Q5 L5 R5 hz5 hOk5 hb6 G6 T6 BE
        go_wp2_with fail
        go_roundg (N + 1 - (k + 1))
        case measure => omega
        case rel => exact ⟨k + 1, m1, s1, c1, s6, c6, rfl, by omega, rfl, (by first | rfl | (congr 1; omega)), hcap2, hc1b, by omega, Lib.hid (by rw [hR1.out]; exact V5.out), Lib.hid (by rw [htk.out]; exact Q6.out), B6⟩
    · obtain rfl : k = N := by omega
      have hend : restB L k = [] := by rw [← hNL.out]; exact restB_end L
      have htk : (L.take k).map Prod.snd = L.map Prod.snd := by rw [← hNL.out, List.take_length]
      rw [hend] at V
      rw [htk] at Q
      obtain rfl : m = 0 := by have := V.out.1; simpa using this.symm
      have d1 : ((k : Int) == 0) = false := by simp; omega
      have P6 := Lib.hid (P2.out.bw B.out)
      have Q6 := Lib.hid (Q2.out.bw B.out)
      have B6 := Lib.hid (B3.out.trans B.out)
      have hlt6 := Nat.lt_of_lt_of_le hlt2 B.out.size
      replace hend := Lib.hid hend
      replace htk := Lib.hid htk
      clear V hkN
      have p0 := hp_cell P6.out 0
      have p1 := hp_frz P6.out 0
      have q0 := hp_cell Q6.out 0
      have q1 := hp_frz Q6.out 0
      simp only [List.getElem?_toArray, List.getElem?_cons_zero] at p0 q0
      have T1 := still_sc wr w.heap.size 0 (.slice so k co)
      have P7 : Hid (HpB (wr.setCell ⟨w.heap.size, 0, none⟩ (.slice so k co)) w.heap.size (.cells #[.slice so k co] 95)) := hp_set P6.out 0 _
      have Q7 := Lib.hid (Q6.out.st T1 (by simp))
      have E7 := Lib.hid (Q.out.old T1 (fun z hz => by obtain rfl : z = w.heap.size := (by simpa using hz); omega))
      have B7 := Lib.hid (B6.out.stP T1 (fun z hz => by obtain rfl : z = w.heap.size := (by simpa using hz); exact Nat.le_refl _))
      have T2 := still_sc (wr.setCell ⟨w.heap.size, 0, none⟩ (.slice so k co)) (w.heap.size + 1) 0 (.int .i64 0)
      have P8 := Lib.hid (P7.out.st T2 (by simp))
      have Q8 : Hid (HpB ((wr.setCell ⟨w.heap.size, 0, none⟩ (.slice so k co)).setCell ⟨w.heap.size + 1, 0, none⟩ (.int .i64 0)) (w.heap.size + 1) (.cells #[.int .i64 0] 37)) := hp_set Q7.out 0 _
      have E8 := Lib.hid (E7.out.old T2 (fun z hz => by obtain rfl : z = w.heap.size + 1 := (by simpa using hz); omega))
      have B8 := Lib.hid (B7.out.stP T2 (fun z hz => by obtain rfl : z = w.heap.size + 1 := (by simpa using hz); omega))
      clear P6 Q6 B6 P7 Q7 E7 B7 T1 T2 Q
      go_wp2_with fail
      generalize (wr.setCell ⟨w.heap.size, 0, none⟩ (.slice so k co)).setCell ⟨w.heap.size + 1, 0, none⟩ (.int .i64 0) = w9 at *
      refine leaves_cons (f := 89) (args := #[.pointer (some ⟨w.heap.size, 0, none⟩), .pointer (some ⟨w.heap.size + 1, 0, none⟩)]) (by simp) (by simp [go_sem]) ?_
      refine (rd_idle _ _ _).mono ?_
      rintro e u' w'' ⟨rfl, rfl, rfl⟩
      have z0 := hp_cell P8.out 0
      have z1 := hp_cell Q8.out 0
      simp only [List.getElem?_toArray, List.getElem?_cons_zero] at z0 z1
      refine ⟨.tuple #[.slice so k co, .int .i64 0], by simp [results, Try.results55, go_sem, z0, z1], so, co, rfl, E8.out.up (by omega), B8.out⟩
end Go.Proofs.Ytcempndfbckcaaa
