/- Covers of packets: Mend, of a cover that tells one packet more than there is; of one that does not. The sizes' conditions. -/
import Derived.Test.YtgiajnfmjpdodaaFeT
namespace Go.Proofs.Ytgiajnfmjpdodaa
open Go.RowKit

/-- The rows that are xored: the cover's, and those of the packets that are there. -/
def rowsN (l : List Nat) (D : List RtpD) (A : List Nat) : List (List Nat) := l.drop 4 :: (A.filterMap fun s => D.find? (isSeq s)).map txN
theorem rowsN_none {l : List Nat} {D : List RtpD} {A : List Nat} {k : Nat} (h : k < A.length) (hf : D.find? (isSeq A[k]) = none) : rowsN l D (A.take (k + 1)) = rowsN l D (A.take k) := by
  unfold rowsN
  rw [List.take_succ_eq_append_getElem h, List.filterMap_append]
  simp [hf]
theorem rowsN_some {l : List Nat} {D : List RtpD} {A : List Nat} {k : Nat} {d : RtpD} (h : k < A.length) (hf : D.find? (isSeq A[k]) = some d) : rowsN l D (A.take (k + 1)) = rowsN l D (A.take k) ++ [txN d] := by
  unfold rowsN
  rw [List.take_succ_eq_append_getElem h, List.filterMap_append]
  simp [hf]
def MendPost (d : RtpD) (w : World) (e : Ending) (w' : World) : Prop :=
  ∃ c : Array Value, e = .returned (.tuple #[.agg c, .int .i64 0]) ∧ RtpO w' w.heap.size c d ∧ BW w w'
def NonePost (w : World) (e : Ending) (w' : World) : Prop :=
  e = .returned (.tuple #[.agg zC, .int .i64 9]) ∧ BW w w'
set_option maxRecDepth 100000 in
set_option maxHeartbeats 8000000 in
theorem mend_none (bb : Nat) (v : Value) (n : Nat) (l : List Nat) (f mk : Nat) (sa : Option Addr) (m cap : Nat) (D : List RtpD) (w : World) (h : OB w bb 5 v n l) (hn : n ≤ 1000000) (hL : RL w (.slice sa m cap) m D) (hm : m ≤ 1000000) (hn6 : 6 ≤ n) (hf : numB ((l.drop 0).take 2) = f) (hmk : numB ((l.drop 2).take 2) = mk) (hf16 : f < 65536) (hmk16 : mk < 65536) (hm1 : mk % 2 = 1) (h2 : 2 ≤ (covK f mk 16).length)
    (hk : ((covK f mk 16).filter fun x => !(hasS D x)).length ≠ 1) :
    Calls Try.prog 53 #[v, .slice sa m cap] w (NonePost w) := by
  unfold NonePost
  obtain ⟨sb, cb, rfl, hnc, hcm⟩ := h.len
  unfold maxLen at hcm
  obtain ⟨_, _, he, hmc, hmm⟩ := hL.sl
  cases he
  unfold maxLen at hmm
  have hmf : ∀ (fn : Fn) (first cap : Array Value) (w : World), (Instr.makeFunc fn first cap).run Try.prog w = .ok (.func fn first cap) w := fun _ _ _ _ => rfl
  have B1 : Hid (BW w ((w.alloc (.cells #[.slice sa m cap] 65)).alloc (.cells #[.bool false, .int .u8 0, .int .u16 0, .int .u32 0, .int .u32 0, .slice none 0 0, .bool false, .int .u16 0, .slice none 0 0, .slice none 0 0, .int .u8 0] 28))) := ((BW.refl w).alloc).alloc
  have x1 : Hid (((w.alloc (.cells #[.slice sa m cap] 65)).alloc (.cells #[.bool false, .int .u8 0, .int .u16 0, .int .u32 0, .int .u32 0, .slice none 0 0, .bool false, .int .u16 0, .slice none 0 0, .slice none 0 0, .int .u8 0] 28)).cell? ⟨w.heap.size, 0, none⟩ = some (.slice sa m cap)) := ((BW.refl _).alloc).cell (hp_cell (HpB.new w _) 0)
  have Z1 : Hid (PkV ((w.alloc (.cells #[.slice sa m cap] 65)).alloc (.cells #[.bool false, .int .u8 0, .int .u16 0, .int .u32 0, .int .u32 0, .slice none 0 0, .bool false, .int .u16 0, .slice none 0 0, .slice none 0 0, .int .u8 0] 28)) (w.heap.size + 1) zC) := HpB.newAt _ _ _ (by simp)
  have hz1 : w.heap.size + 1 < ((w.alloc (.cells #[.slice sa m cap] 65)).alloc (.cells #[.bool false, .int .u8 0, .int .u16 0, .int .u32 0, .int .u32 0, .slice none 0 0, .bool false, .int .u16 0, .slice none 0 0, .slice none 0 0, .int .u8 0] 28)).heap.size := by simp
  have cC := fun wz (hb : BW w wz) => Lib.hid (covers_any (.slice sb n cb) n l f mk wz (h.sb.bw hb) hn6 hf hmk hf16 hmk16 hm1 h2)
  unfold CovPost at cC
  have hcl := covK_le f mk 16
  have H := Lib.hid h
  have hL1 := Lib.hid hL
  clear h hL hf hmk
  generalize covK f mk 16 = A at *
  replace hm1 := Lib.hid hm1
  replace h2 := Lib.hid h2
  go_enter Try.func53, Try.ntmps53
  go_upto_region 1 with (fail)
  generalize (w.alloc (.cells #[.slice sa m cap] 65)).alloc (.cells #[.bool false, .int .u8 0, .int .u16 0, .int .u32 0, .int .u32 0, .slice none 0 0, .bool false, .int .u16 0, .slice none 0 0, .slice none 0 0, .int .u8 0] 28) = w1 at *
  have cC1 := cC w1 B1.out
  clear cC
  go_wp2_with fail
  refine Calls.mono cC1.out ?_
  rintro e w2 ⟨v2, rfl, Q2, hb⟩
  have B2 := Lib.hid (B1.out.trans hb)
  have x2 := Lib.hid (hb.cell x1.out)
  have Z2 := Z1.out.bw hb
  obtain ⟨s2, c2, rfl, hc2, hm2⟩ := Q2.len
  unfold maxLen at hm2
  have hA2 := h2.out
  have cK := Lib.hid (clone16_any _ _ _ _ w2 Q2 (by omega) (by omega))
  replace Q2 := Lib.hid Q2
  replace Z2 := Lib.hid Z2
  generalize hAl : A.length = na at *
  replace hAl := Lib.hid hAl
  clear cC1 hb B1 x1 Z1
  dsimp only
  go_wp2_with fail
  refine Calls.mono cK.out ?_
  rintro e w3 ⟨v3, rfl, Q3, hb⟩
  obtain ⟨s3, c3, rfl, hc3, hm3⟩ := Q3.len
  have cD := Lib.hid (del_any _ _ _ _ sa m cap D w.heap.size w2 w3 hb (Nat.le_refl _) Q3 (by omega) (hL1.out.bw B2.out) hm x2.out)
  unfold DelPost at cD
  clear cK Q3 hb
  dsimp only
  go_wp2_with fail
  refine Calls.mono cD.out ?_
  rintro e w4 ⟨v4, rfl, Q5, hb⟩
  have B4 := Lib.hid (B2.out.trans hb)
  have x4 := Lib.hid (hb.cell x2.out)
  have Z4 := Lib.hid (Z2.out.bw hb)
  have Q4 := Lib.hid (Q2.out.bw hb)
  have hz4 := Z4.out.lt
  obtain ⟨s4, c4, rfl, hc4, hm4⟩ := Q5.len
  clear cD hb x2 Z2 Q2 B2
  dsimp only
  have q : (((A.filter fun x => !(hasS D x)).length : Int) != 1) = true := by rw [bne_iff_ne]; omega
  generalize (A.filter fun x => !(hasS D x)).length = nl at *
  clear Q5 Q4 x4
  go_upto_region 6 with (fail)
  have z0 := hp_cell (Z4.out) 0
  have y0 := hp_frz (Z4.out) 0
  have z1 := hp_cell (Z4.out) 1
  have y1 := hp_frz (Z4.out) 1
  have z2 := hp_cell (Z4.out) 2
  have y2 := hp_frz (Z4.out) 2
  have z3 := hp_cell (Z4.out) 3
  have y3 := hp_frz (Z4.out) 3
  have z4 := hp_cell (Z4.out) 4
  have y4 := hp_frz (Z4.out) 4
  have z5 := hp_cell (Z4.out) 5
  have y5 := hp_frz (Z4.out) 5
  have z6 := hp_cell (Z4.out) 6
  have y6 := hp_frz (Z4.out) 6
  have z7 := hp_cell (Z4.out) 7
  have y7 := hp_frz (Z4.out) 7
  have z8 := hp_cell (Z4.out) 8
  have y8 := hp_frz (Z4.out) 8
  have z9 := hp_cell (Z4.out) 9
  have y9 := hp_frz (Z4.out) 9
  have z10 := hp_cell (Z4.out) 10
  have y10 := hp_frz (Z4.out) 10
  simp only [zC, rtpC, List.getElem?_toArray, List.getElem?_cons_zero, List.getElem?_cons_succ] at z0 z1 z2 z3 z4 z5 z6 z7 z8 z9 z10
  go_wp2_with fail
  clear z0 z1 z2 z3 z4 z5 z6 z7 z8 z9 z10 y0 y1 y2 y3 y4 y5 y6 y7 y8 y9 y10
  have TS := still_set11 w4 (w.heap.size + 1) (.bool false) (.int .u8 0) (.int .u16 0) (.int .u32 0) (.int .u32 0) (.slice none 0 0) (.bool false) (.int .u16 0) (.slice none 0 0) (.slice none 0 0) (.int .u8 0)
  have Z5 := Z4.out.set11 rfl (.bool false) (.int .u8 0) (.int .u16 0) (.int .u32 0) (.int .u32 0) (.slice none 0 0) (.bool false) (.int .u16 0) (.slice none 0 0) (.slice none 0 0) (.int .u8 0)
  have T4 := B4.out.stl TS (by simp)
  have z0 := hp_cell (Z5) 0
  have z1 := hp_cell (Z5) 1
  have z2 := hp_cell (Z5) 2
  have z3 := hp_cell (Z5) 3
  have z4 := hp_cell (Z5) 4
  have z5 := hp_cell (Z5) 5
  have z6 := hp_cell (Z5) 6
  have z7 := hp_cell (Z5) 7
  have z8 := hp_cell (Z5) 8
  have z9 := hp_cell (Z5) 9
  have z10 := hp_cell (Z5) 10
  simp only [List.getElem?_toArray, List.getElem?_cons_zero, List.getElem?_cons_succ] at z0 z1 z2 z3 z4 z5 z6 z7 z8 z9 z10
  replace Z5 := Lib.hid Z5
  replace TS := Lib.hid TS
  replace T4 := Lib.hid T4
  exact bodyPost_ret (v := .tuple #[.agg zC, .int .i64 9]) (by simp [results, Try.results53, go_sem, z0, z1, z2, z3, z4, z5, z6, z7, z8, z9, z10, zC, rtpC]) rfl ⟨rfl, T4.out⟩
set_option maxRecDepth 100000 in
set_option maxHeartbeats 8000000 in
theorem mend_one (bb : Nat) (v : Value) (n : Nat) (l : List Nat) (f mk : Nat) (sa : Option Addr) (m cap : Nat) (D : List RtpD) (w : World) (h : OB w bb 5 v n l) (hn : n ≤ 1000000) (hL : RL w (.slice sa m cap) m D) (hm : m ≤ 1000000) (hn6 : 6 ≤ n) (hf : numB ((l.drop 0).take 2) = f) (hmk : numB ((l.drop 2).take 2) = mk) (hf16 : f < 65536) (hmk16 : mk < 65536) (hm1 : mk % 2 = 1) (h2 : 2 ≤ (covK f mk 16).length)
    (hpl : ∀ d ∈ D, d.payload.length ≤ 1000000) (hmay : ∀ d ∈ D, (writeN d).isSome = true) (s0 : Nat) (hk : ((covK f mk 16).filter fun x => !(hasS D x)) = [s0])
    (X : List Nat) (hX : xorR (rowsN l D (covK f mk 16)) = X) (kk hd : Nat) (d0 : RtpD) (hX2 : 2 ≤ X.length) (hkk : numB ((X.drop 0).take 2) = kk) (hkn : kk ≤ X.length - 2) (hz : (X.drop (2 + kk)).any nzB = false) (hR : readN ((X.drop 2).take kk) = (0, hd, d0)) (hs0 : d0.seq = s0) :
    Calls Try.prog 53 #[v, .slice sa m cap] w (MendPost d0 w) := by
  unfold MendPost
  replace hX := Lib.hid hX
  replace hkk := Lib.hid hkk
  replace hz := Lib.hid hz
  replace hR := Lib.hid hR
  replace hs0 := Lib.hid hs0
  replace hmay := Lib.hid hmay
  replace hpl := Lib.hid hpl
  replace hkn := Lib.hid hkn
  replace hk := Lib.hid hk
  obtain ⟨sb, cb, rfl, hnc, hcm⟩ := h.len
  unfold maxLen at hcm
  obtain ⟨_, _, he, hmc, hmm⟩ := hL.sl
  cases he
  unfold maxLen at hmm
  have hmf : ∀ (fn : Fn) (first cap : Array Value) (w : World), (Instr.makeFunc fn first cap).run Try.prog w = .ok (.func fn first cap) w := fun _ _ _ _ => rfl
  have B1 : Hid (BW w ((w.alloc (.cells #[.slice sa m cap] 65)).alloc (.cells #[.bool false, .int .u8 0, .int .u16 0, .int .u32 0, .int .u32 0, .slice none 0 0, .bool false, .int .u16 0, .slice none 0 0, .slice none 0 0, .int .u8 0] 28))) := ((BW.refl w).alloc).alloc
  have x1 : Hid (((w.alloc (.cells #[.slice sa m cap] 65)).alloc (.cells #[.bool false, .int .u8 0, .int .u16 0, .int .u32 0, .int .u32 0, .slice none 0 0, .bool false, .int .u16 0, .slice none 0 0, .slice none 0 0, .int .u8 0] 28)).cell? ⟨w.heap.size, 0, none⟩ = some (.slice sa m cap)) := ((BW.refl _).alloc).cell (hp_cell (HpB.new w _) 0)
  have Z1 : Hid (PkV ((w.alloc (.cells #[.slice sa m cap] 65)).alloc (.cells #[.bool false, .int .u8 0, .int .u16 0, .int .u32 0, .int .u32 0, .slice none 0 0, .bool false, .int .u16 0, .slice none 0 0, .slice none 0 0, .int .u8 0] 28)) (w.heap.size + 1) zC) := HpB.newAt _ _ _ (by simp)
  have hz1 : w.heap.size + 1 < ((w.alloc (.cells #[.slice sa m cap] 65)).alloc (.cells #[.bool false, .int .u8 0, .int .u16 0, .int .u32 0, .int .u32 0, .slice none 0 0, .bool false, .int .u16 0, .slice none 0 0, .slice none 0 0, .int .u8 0] 28)).heap.size := by simp
  have cC := fun wz (hb : BW w wz) => Lib.hid (covers_any (.slice sb n cb) n l f mk wz (h.sb.bw hb) hn6 hf hmk hf16 hmk16 hm1 h2)
  unfold CovPost at cC
  have hcl := covK_le f mk 16
  have H := Lib.hid h
  have hL1 := Lib.hid hL
  clear h hL hf hmk
  generalize covK f mk 16 = A at *
  replace hm1 := Lib.hid hm1
  replace h2 := Lib.hid h2
  go_enter Try.func53, Try.ntmps53
  go_upto_region 1 with (fail)
  generalize (w.alloc (.cells #[.slice sa m cap] 65)).alloc (.cells #[.bool false, .int .u8 0, .int .u16 0, .int .u32 0, .int .u32 0, .slice none 0 0, .bool false, .int .u16 0, .slice none 0 0, .slice none 0 0, .int .u8 0] 28) = w1 at *
  have cC1 := cC w1 B1.out
  clear cC
  go_wp2_with fail
  refine Calls.mono cC1.out ?_
  rintro e w2 ⟨v2, rfl, Q2, hb⟩
  have B2 := Lib.hid (B1.out.trans hb)
  have x2 := Lib.hid (hb.cell x1.out)
  have Z2 := Z1.out.bw hb
  obtain ⟨s2, c2, rfl, hc2, hm2⟩ := Q2.len
  unfold maxLen at hm2
  have hA2 := h2.out
  have cK := Lib.hid (clone16_any _ _ _ _ w2 Q2 (by omega) (by omega))
  replace Q2 := Lib.hid Q2
  replace Z2 := Lib.hid Z2
  generalize hAl : A.length = na at *
  replace hAl := Lib.hid hAl
  clear cC1 hb B1 x1 Z1
  dsimp only
  go_wp2_with fail
  refine Calls.mono cK.out ?_
  rintro e w3 ⟨v3, rfl, Q3, hb⟩
  obtain ⟨s3, c3, rfl, hc3, hm3⟩ := Q3.len
  have cD := Lib.hid (del_any _ _ _ _ sa m cap D w.heap.size w2 w3 hb (Nat.le_refl _) Q3 (by omega) (hL1.out.bw B2.out) hm x2.out)
  unfold DelPost at cD
  clear cK Q3 hb
  dsimp only
  go_wp2_with fail
  refine Calls.mono cD.out ?_
  rintro e w4 ⟨v4, rfl, Q5, hb⟩
  have B4 := Lib.hid (B2.out.trans hb)
  have x4 := Lib.hid (hb.cell x2.out)
  have Z4 := Lib.hid (Z2.out.bw hb)
  have Q4 := Lib.hid (Q2.out.bw hb)
  have hz4 := Z4.out.lt
  obtain ⟨s4, c4, rfl, hc4, hm4⟩ := Q5.len
  clear cD hb x2 Z2 Q2 B2
  dsimp only
  rw [hk.out] at Q5 ⊢
  simp only [List.length_singleton] at Q5 hc4 ⊢
  have r1 := fun w => run_cut_l (P := Try.prog) Try.underlying22 info_u8 sb n cb 4 4 rfl .i64 (by omega) w
  have C4 := (H.out.cut 4 n cb (by omega) (Nat.le_refl _) hnc (Nat.le_refl _)).up (Nat.zero_le bb)
  rw [show (l.drop 4).take (n - 4) = l.drop 4 from List.take_of_length_le (by rw [List.length_drop, H.out.1]; exact Nat.le_refl _)] at C4
  have hl4 : (l.drop 4).length = n - 4 := by rw [List.length_drop, H.out.1]
  have BA : BW w4 (w4.alloc (.cells #[.slice (cutA sb 4 cb 1) (n - 4) (cb - 4)] 22)) := (BW.refl _).alloc
  have T1 : Hid (EQ BR 22 (w4.alloc (.cells #[.slice (cutA sb 4 cb 1) (n - 4) (cb - 4)] 22)) 0 (.slice (some ⟨w4.heap.size, 0, none⟩) 1 1) 1 [l.drop 4]) :=
    Lib.hid (EQ.new1 (E := BR) w4 22 0 (l.drop 4) [.slice (cutA sb 4 cb 1) (n - 4) (cb - 4)] ⟨_, rfl, by rw [hl4]; exact C4.bw (B4.out.trans BA)⟩ (Nat.zero_le _))
  have hA16 : na ≤ 16 := hcl
  generalize cutA sb 4 cb 1 = s5 at *
  clear C4
  replace BA := Lib.hid BA
  replace hl4 := Lib.hid hl4
  go_upto_region 9 with (fail)
  generalize w4.alloc (.cells #[.slice s5 (n - 4) (cb - 4)] 22) = w5 at *
  clear r1
  go_loopg [9, 38] na (fun m' ts i wx => ∃ (k r : Nat) (so : Option Addr) (co : Nat), m' = na - k ∧ k ≤ na ∧ ts = .slice so r co ∧ r ≤ k + 1 ∧ co ≤ 9223372036854775807 ∧ i = .int .i64 (k : Nat) ∧ Hid (EQ BR 22 wx 0 (.slice so r co) r (rowsN l D (A.take k))) ∧ Hid (∀ j, (Value.slice so r co).ownBlock = some j → w4.heap.size ≤ j) ∧ Hid (BW w4 wx))
  case atStart => exact ⟨0, 1, _, 1, rfl, by omega, rfl, by omega, by omega, rfl, T1, (fun j hj => by simp [Value.ownBlock] at hj; omega), BA⟩
  case round =>
    clear T1 BA
    obtain ⟨k, r, so, co, rfl, hk1, rfl, hr, hco, rfl, T, F, B⟩ := hrel
    by_cases hkn1 : k < na
    · have d : decide ((k : Int) < (na : Int)) = true := by simp; omega
      have hkA : k < A.length := by rw [hAl.out]; exact hkn1
      obtain ⟨ga, oa, rfl, hca⟩ := i16_form (Q4.out.bw B.out) (by omega)
      have z := hca k hkA
      have xr4 := B.out.cell x4.out
      have cO := Lib.hid (of_any _ m D A[k] wr (hL1.out.bw (B4.out.trans B.out)) hm)
      unfold OfPost at cO
      have hn1 := fun hf => rowsN_none (l := l) (D := D) hkA hf
      have hn2 := fun d hf => rowsN_some (l := l) (D := D) (d := d) hkA hf
      clear hca
      generalize A[k] = t at *
      replace hn1 := Lib.hid hn1
      replace hn2 := Lib.hid hn2
      go_wp2_with fail
      refine Calls.mono cO.out ?_
      rintro e w6 ⟨hr6, hb⟩
      have B6 := Lib.hid (B.out.trans hb)
      have T6 := Lib.hid (T.out.bw hb)
      have hbr := Lib.hid hb
      clear cO hb z xr4 B T
      rcases hr6 with ⟨dd, c, hf, rfl, hV⟩ | ⟨hf, rfl⟩
      · obtain ⟨s7, c7, s8, c8, s9, c9, rfl, -, -, -⟩ := hV.open
        have hmem := List.mem_of_find?_eq_some hf
        have hv := hmay.out dd hmem
        have hwd := hL1.out.wf dd hmem
        have hpd := hpl.out dd hmem
        have cT := fun wz (hb : BW wr wz) => Lib.hid (text_any _ dd wz (hV.bw hb) hwd hpd)
        simp only [hv] at cT
        have hrn := hn2.out dd hf
        clear hV hn1 hn2 hwd hpd hmem hf hv
        simp only [rtpC] at cT ⊢
        generalize txN dd = tx at *
        generalize dd.marker = mk_ at *
        generalize dd.typ = ty at *
        generalize dd.seq = sq at *
        generalize dd.stamp = st at *
        generalize dd.source = so_ at *
        generalize dd.others.length = no at *
        generalize dd.ext = xb_ at *
        generalize dd.profile = pf at *
        generalize dd.extra.length = ne at *
        generalize dd.payload.length = np at *
        generalize dd.pad = pd at *
        have BA : BW w6 (w6.alloc (.cells #[.bool mk_, .int .u8 (ty : Nat), .int .u16 (sq : Nat), .int .u32 (st : Nat), .int .u32 (so_ : Nat), .slice s7 no c7, .bool xb_, .int .u16 (pf : Nat), .slice s8 ne c8, .slice s9 np c9, .int .u8 (pd : Nat)] 28)) := (BW.refl _).alloc
        have X7 : Hid (HpB (w6.alloc (.cells #[.bool mk_, .int .u8 (ty : Nat), .int .u16 (sq : Nat), .int .u32 (st : Nat), .int .u32 (so_ : Nat), .slice s7 no c7, .bool xb_, .int .u16 (pf : Nat), .slice s8 ne c8, .slice s9 np c9, .int .u8 (pd : Nat)] 28)) w6.heap.size (.cells #[.bool mk_, .int .u8 (ty : Nat), .int .u16 (sq : Nat), .int .u32 (st : Nat), .int .u32 (so_ : Nat), .slice s7 no c7, .bool xb_, .int .u16 (pf : Nat), .slice s8 ne c8, .slice s9 np c9, .int .u8 (pd : Nat)] 28)) := HpB.new _ _
        have cT7 := cT _ (hbr.out.trans BA)
        have T7 := Lib.hid (T6.out.bw BA)
        have B7 := Lib.hid (B6.out.trans BA)
        clear cT T6 B6 BA hbr
        replace hrn := Lib.hid hrn
        go_upto_region 13 with (fail)
        generalize w6.alloc (.cells #[.bool mk_, .int .u8 (ty : Nat), .int .u16 (sq : Nat), .int .u32 (st : Nat), .int .u32 (so_ : Nat), .slice s7 no c7, .bool xb_, .int .u16 (pf : Nat), .slice s8 ne c8, .slice s9 np c9, .int .u8 (pd : Nat)] 28) = w7 at *
        generalize w6.heap.size = g7 at *
        have x0 := hp_cell (X7.out) 0
        have x1 := hp_cell (X7.out) 1
        have x2 := hp_cell (X7.out) 2
        have x3 := hp_cell (X7.out) 3
        have x4 := hp_cell (X7.out) 4
        have x5 := hp_cell (X7.out) 5
        have x6 := hp_cell (X7.out) 6
        have x7 := hp_cell (X7.out) 7
        have x8 := hp_cell (X7.out) 8
        have x9 := hp_cell (X7.out) 9
        have x10 := hp_cell (X7.out) 10
        simp only [List.getElem?_toArray, List.getElem?_cons_zero, List.getElem?_cons_succ] at x0 x1 x2 x3 x4 x5 x6 x7 x8 x9 x10
        go_wp2_with fail
        refine Calls.mono cT7.out ?_
        rintro e w8 ⟨v8, rfl, O8, hb8⟩
        clear x0 x1 x2 x3 x4 x5 x6 x7 x8 x9 x10
        obtain ⟨s10, c10, rfl, hc10, hm10⟩ := O8.len
        unfold maxLen at hm10
        have T8 := Lib.hid (T7.out.bw hb8)
        have B8 := Lib.hid (B7.out.trans hb8)
        have OT8 := O8.up (Nat.zero_le _)
        clear cT7 T7 B7 X7 O8 hb8
        generalize hnt : tx.length = nt at *
        replace hnt := Lib.hid hnt
        dsimp only
        have BA : BW w8 (w8.alloc (.cells #[.slice s10 nt c10] 22)) := (BW.refl _).alloc
        have L3 := Lib.hid (Sls.new1 (E := BR) w8 22 [.slice s10 nt c10] rfl)
        have O9 := Lib.hid (T8.out.bw BA)
        have OT9 : Hid (BR.R (w8.alloc (.cells #[.slice s10 nt c10] 22)) 0 tx [.slice s10 nt c10]) := Lib.hid ⟨_, rfl, by rw [hnt.out]; exact OT8.bw BA⟩
        have B9 := Lib.hid (B8.out.trans BA)
        have hz9 := B9.out.size
        clear OT8 T8 B8
        replace BA := Lib.hid BA
        go_wp2_with (at_builtin; go_must (refine wpList_apEQ slSS rfl _ _ rfl 0 (.slice so r co) r (rowsN l D (A.take k)) rfl O9.out _ rfl 1 [tx] [.slice s10 nt c10] L3.out (EL.single OT9.out) rfl (by omega) (Nat.zero_le _) (O9.out.noB (by decide)) ?_; intro s11 c11 w11 hc11 hm11 O11 T11 hb11 G11; unfold maxLen at hm11; replace O11 := Lib.hid O11; replace T11 := Lib.hid T11; replace G11 := Lib.hid G11; clear hb11))
        have B12 := Lib.hid (BW.stP B9.out T11.out (fun j hj => F.out j (by simpa using hj)))
        have O12 : Hid (EQ BR 22 w11 0 (.slice s11 (r + 1) c11) (r + 1) (rowsN l D (A.take (k + 1)))) := Lib.hid (by rw [hrn.out]; exact O11.out)
        have F12 : Hid (∀ j, (Value.slice s11 (r + 1) c11).ownBlock = some j → w4.heap.size ≤ j) := Lib.hid (fun j hj => by
          rcases G11.out j hj with h | h
          · exact F.out j h
          · exact Nat.le_trans hz9 h)
        clear O11 T11 O9 B9 L3 OT9 G11 hz9
        go_wp2_with fail
        go_roundg (na - (k + 1))
        case measure => omega
        case rel => exact ⟨k + 1, r + 1, s11, c11, rfl, by omega, rfl, by omega, hm11, by push_cast; rfl, O12, F12, B12⟩
      · have hrn := hn1.out hf
        rw [← hrn] at T6
        clear hrn
        replace hf := Lib.hid hf
        simp only [zC, rtpC]
        go_wp2_with fail
        go_roundg (na - (k + 1))
        case measure => omega
        case rel => exact ⟨k + 1, r, so, co, rfl, by omega, rfl, by omega, hco, by push_cast; rfl, T6.out.bw ((BW.refl _).alloc), F, B6.out.alloc⟩
    · obtain rfl : k = na := by omega
      have d : decide ((k : Int) < (k : Int)) = false := by simp
      have hall : A.take k = A := List.take_of_length_le (by rw [hAl.out]; exact Nat.le_refl _)
      rw [hall] at T
      have hrow : ∀ r ∈ rowsN l D A, r.length ≤ 1000000 := fun r hr => by
        unfold rowsN at hr
        rcases List.mem_cons.1 hr with rfl | hr
        · rw [hl4.out]; omega
        · obtain ⟨d, _, rfl⟩ := List.mem_map.1 hr
          have := txN_le d
          omega
      have hXl : X.length ≤ 1000000 := by
        rw [← hX.out]
        exact xorR_le hrow (Nat.zero_le _)
      have cX := fun wz (hb : BW wr wz) => Lib.hid (xor_any _ r (rowsN l D A) wz (T.out.bw hb).sm hrow (by omega))
      simp only [hX.out] at cX
      have cP := fun v' wz (h : SB wz v' X.length X) => Lib.hid (packet_any v' X.length X kk hd s0 d0 wz h hXl hX2 hkk.out hkn.out hz.out hR.out hs0.out)
      unfold PackPost at cP
      obtain ⟨g4, o4, rfl, hc5⟩ := i16_form (Q5.bw B.out) (by decide)
      have y0 := hc5 0 (by simp)
      simp only [List.getElem_cons_zero, Nat.add_zero] at y0
      have l0 : ∀ y : LaterS [] wr, y.now.cell? ⟨g4, o4, none⟩ = some (.int .u16 (s0 : Nat)) := fun y => y.bw.cell y0
      have B5 := Lib.hid (B4.out.trans B.out)
      have Z5 := Lib.hid (Z4.out.bw B.out)
      clear hc5 y0 hall hrow T F Q4 B Z4 B4 x4
      generalize hXn : X.length = nX at *
      replace hXn := Lib.hid hXn
      replace cX := Lib.hid cX
      replace cP := Lib.hid cP
      obtain ⟨wq, rfl⟩ : ∃ y, y = wr := ⟨_, rfl⟩
      go_upto_region 18 with (fail)
      refine wp_region_gg [] [] [8] (by kernel_rfl) ?_
      refine hoist [] [] (a1 := ?_) 0 rfl (by kernel_rfl) (.inl ⟨rfl, rfl⟩) rfl rfl rfl (fun x K hK => ?_) ?_
      rotate_left
      · go_big_quiet_op
        exact hK
      refine hoist [] [] (a1 := ?_) 2 rfl (by kernel_rfl) (.inl ⟨rfl, rfl⟩) rfl rfl rfl (fun x K hK => ?_) ?_
      rotate_left
      · go_big_quiet_op
        exact hK
      refine hoist [] [] (a1 := ?_) 3 rfl (by kernel_rfl) (.inl ⟨rfl, rfl⟩) rfl rfl rfl (fun x K hK => ?_) ?_
      rotate_left
      · go_big_quiet_op
        exact hK
      refine hoist [] [] (a1 := ?_) 4 rfl (by kernel_rfl) (.inl ⟨rfl, rfl⟩) rfl rfl rfl (fun x K hK => ?_) ?_
      rotate_left
      · go_big_quiet_op
        exact hK
      refine effect 1 rfl (by kernel_rfl) (by kernel_rfl) rfl (fun x1 K hK => ?_)
      go_simp
      refine Calls.mono (cX.out x1.now x1.bw).out ?_
      rintro e w7 ⟨v7, rfl, O7, hb⟩
      obtain ⟨s7, c7, rfl, _, _⟩ := O7.len
      refine hK _ _ (Still.of_below hb) ?_
      clear hK K
      have B7 := Lib.hid ((B5.out.trans x1.bw).trans hb)
      have Z7 := Lib.hid ((Z5.out.bw x1.bw).bw hb)
      have S7 := Lib.hid O7.sb
      clear hb O7 B5 Z5
      try simp only [Act.put, List.setIfInBounds_toArray, List.set_cons_succ, List.set_cons_zero]
      refine effect 5 rfl (by kernel_rfl) (by kernel_rfl) rfl (fun x5 K hK => ?_)
      go_simp
      refine Calls.mono (cP.out _ x5.now (S7.out.bw x5.bw)).out ?_
      rintro e w8 ⟨c, rfl, O8, hb⟩
      obtain ⟨so_, co_, se, ce, sp, cp, rfl, -, -, -⟩ := O8.open
      refine hK _ _ (Still.of_below hb) ?_
      clear hK K
      have hz8 := (B7.out.trans x5.bw).size
      have B8 := Lib.hid ((B7.out.trans x5.bw).trans hb)
      have Z8 := Lib.hid ((Z7.out.bw x5.bw).bw hb)
      have hg8 : w.heap.size + 1 < x5.now.heap.size := (Z7.out.bw x5.bw).lt
      clear hb B7 Z7 S7
      try simp only [Act.put, List.setIfInBounds_toArray, List.set_cons_succ, List.set_cons_zero]
      refine hoist [] [] (a1 := ?_) 6 rfl (by kernel_rfl) (.inl ⟨rfl, rfl⟩) rfl rfl rfl (fun x K hK => ?_) ?_
      rotate_left
      · go_big_quiet_op
        exact hK
      refine hoist [] [] (a1 := ?_) 7 rfl (by kernel_rfl) (.inl ⟨rfl, rfl⟩) rfl rfl rfl (fun x K hK => ?_) ?_
      rotate_left
      · go_big_quiet_op
        exact hK
      refine tail 8 rfl (by kernel_rfl) rfl (fun xr => ?_)
      simp only [List.drop_succ_cons, List.drop_zero]
      have B9 := Lib.hid (B8.out.trans xr.bw)
      have Z9 := Lib.hid (Z8.out.bw xr.bw)
      have O9 := Lib.hid (O8.bw xr.bw)
      clear B8 Z8 O8
      generalize xr.now = w9 at *
      obtain ⟨mk_, ty, sq, st, so, ot, xb, pf, ex, pl, pd⟩ := d0
      simp only [rtpC] at O9 ⊢
      have z0 := hp_cell (Z9.out) 0
      have y0 := hp_frz (Z9.out) 0
      have z1 := hp_cell (Z9.out) 1
      have y1 := hp_frz (Z9.out) 1
      have z2 := hp_cell (Z9.out) 2
      have y2 := hp_frz (Z9.out) 2
      have z3 := hp_cell (Z9.out) 3
      have y3 := hp_frz (Z9.out) 3
      have z4 := hp_cell (Z9.out) 4
      have y4 := hp_frz (Z9.out) 4
      have z5 := hp_cell (Z9.out) 5
      have y5 := hp_frz (Z9.out) 5
      have z6 := hp_cell (Z9.out) 6
      have y6 := hp_frz (Z9.out) 6
      have z7 := hp_cell (Z9.out) 7
      have y7 := hp_frz (Z9.out) 7
      have z8 := hp_cell (Z9.out) 8
      have y8 := hp_frz (Z9.out) 8
      have z9 := hp_cell (Z9.out) 9
      have y9 := hp_frz (Z9.out) 9
      have z10 := hp_cell (Z9.out) 10
      have y10 := hp_frz (Z9.out) 10
      simp only [zC, rtpC, List.getElem?_toArray, List.getElem?_cons_zero, List.getElem?_cons_succ] at z0 z1 z2 z3 z4 z5 z6 z7 z8 z9 z10
      go_wp2_with fail
      clear z0 z1 z2 z3 z4 z5 z6 z7 z8 z9 z10 y0 y1 y2 y3 y4 y5 y6 y7 y8 y9 y10
      have TS := still_set11 w9 (w.heap.size + 1) (.bool mk_) (.int .u8 (ty : Nat)) (.int .u16 (sq : Nat)) (.int .u32 (st : Nat)) (.int .u32 (so : Nat)) (.slice so_ ot.length co_) (.bool xb) (.int .u16 (pf : Nat)) (.slice se ex.length ce) (.slice sp pl.length cp) (.int .u8 (pd : Nat))
      have ZA := Z9.out.set11 rfl (.bool mk_) (.int .u8 (ty : Nat)) (.int .u16 (sq : Nat)) (.int .u32 (st : Nat)) (.int .u32 (so : Nat)) (.slice so_ ot.length co_) (.bool xb) (.int .u16 (pf : Nat)) (.slice se ex.length ce) (.slice sp pl.length cp) (.int .u8 (pd : Nat))
      have OA := (O9.out.still TS (by simpa using hg8)).up hz8
      have TA := B9.out.stl TS (by simp)
      have z0 := hp_cell (ZA) 0
      have z1 := hp_cell (ZA) 1
      have z2 := hp_cell (ZA) 2
      have z3 := hp_cell (ZA) 3
      have z4 := hp_cell (ZA) 4
      have z5 := hp_cell (ZA) 5
      have z6 := hp_cell (ZA) 6
      have z7 := hp_cell (ZA) 7
      have z8 := hp_cell (ZA) 8
      have z9 := hp_cell (ZA) 9
      have z10 := hp_cell (ZA) 10
      simp only [List.getElem?_toArray, List.getElem?_cons_zero, List.getElem?_cons_succ] at z0 z1 z2 z3 z4 z5 z6 z7 z8 z9 z10
      replace ZA := Lib.hid ZA
      replace TS := Lib.hid TS
      replace OA := Lib.hid OA
      replace TA := Lib.hid TA
      exact bodyPost_ret (v := .tuple #[.agg #[.bool mk_, .int .u8 (ty : Nat), .int .u16 (sq : Nat), .int .u32 (st : Nat), .int .u32 (so : Nat), .slice so_ ot.length co_, .bool xb, .int .u16 (pf : Nat), .slice se ex.length ce, .slice sp pl.length cp, .int .u8 (pd : Nat)], .int .i64 0]) (by simp [results, Try.results53, go_sem, z0, z1, z2, z3, z4, z5, z6, z7, z8, z9, z10]) rfl ⟨_, rfl, OA.out, TA.out⟩
end Go.Proofs.Ytgiajnfmjpdodaa
