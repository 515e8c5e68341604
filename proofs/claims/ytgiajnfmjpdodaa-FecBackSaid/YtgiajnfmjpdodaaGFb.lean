/- Covers of packets: the numbers that a cover tells. No condition but the sizes' and that there are two. Covers of packets: of a number the first packet. No condition but the sizes'. Covers of packets: of a number the first packet, as a value. No condition but the sizes'. -/
import Derived.Test.YtgiajnfmjpdodaaFeL
namespace Go.Proofs.Ytgiajnfmjpdodaa
open Go.RowKit

theorem ofInt_64 (a : Nat) (ha : a < 18446744073709551616) : (BitVec.ofInt 64 (a : Int)).toNat = a := by
  rw [BitVec.toNat_ofInt]
  omega
theorem u64_and_nat (a b : Nat) (ha : a < 18446744073709551616) (hb : b < 18446744073709551616) : bits .and .u64 (a : Int) (b : Int) = ((a &&& b : Nat) : Int) := by
  have hx : a &&& b < 2 ^ 64 := Nat.and_lt_two_pow _ (by omega)
  show IntKind.u64.wrap ((BitVec.ofInt 64 (a : Int) &&& BitVec.ofInt 64 (b : Int)).toNat : Int) = _
  rw [BitVec.toNat_and, ofInt_64 a ha, ofInt_64 b hb]
  exact IntWalk.u64_in _ (by omega)
theorem u64_and_one (a : Nat) (ha : a < 18446744073709551616) : bits .and .u64 (a : Int) 1 = ((a % 2 : Nat) : Int) := by
  have h := u64_and_nat a 1 ha (by decide)
  rw [Nat.and_one_is_mod] at h
  exact h
/-- The numbers that a mask's first k bits tell. -/
def covK (f m k : Nat) : List Nat := ((List.range k).filter fun i => m.testBit i).map fun i => (f + i) % 65536
theorem covK_yes {f m k : Nat} (h : m.testBit k = true) : covK f m (k + 1) = covK f m k ++ [(f + k) % 65536] := by
  unfold covK
  rw [List.range_succ, List.filter_append, List.map_append]
  simp [h]
theorem covK_no {f m k : Nat} (h : m.testBit k = false) : covK f m (k + 1) = covK f m k := by
  unfold covK
  rw [List.range_succ, List.filter_append, List.map_append]
  simp [h]
theorem covK_le (f m k : Nat) : (covK f m k).length ≤ k := by
  unfold covK
  rw [List.length_map]
  exact Nat.le_trans (List.length_filter_le _ _) (by rw [List.length_range]; exact Nat.le_refl _)
theorem two_bytes (l : List Nat) (i : Nat) (h : i + 2 ≤ l.length) : numB ((l.drop i).take 2) = l.getD i 0 * 256 + l.getD (i + 1) 0 := by
  rw [List.drop_eq_getElem_cons (by omega), List.take_succ_cons, List.drop_eq_getElem_cons (by omega), List.take_succ_cons, List.take_zero]
  simp only [numB, List.foldl_cons, List.foldl_nil, List.getD_eq_getElem?_getD]
  rw [List.getElem?_eq_getElem (by omega), List.getElem?_eq_getElem (by omega)]
  simp
def CovPost (f m : Nat) (w : World) (e : Ending) (w' : World) : Prop :=
  ∃ v, e = .returned (.tuple #[v, .int .i64 0]) ∧ EQ I16 24 w' w.heap.size v (covK f m 16).length (covK f m 16) ∧ BW w w'
set_option maxRecDepth 100000 in
set_option maxHeartbeats 8000000 in
theorem covers_any (v : Value) (n : Nat) (l : List Nat) (f m : Nat) (w : World) (h : SB w v n l) (hn : 6 ≤ n) (hf : numB ((l.drop 0).take 2) = f) (hm : numB ((l.drop 2).take 2) = m) (hf16 : f < 65536) (hm16 : m < 65536) (hm1 : m % 2 = 1) (h2 : 2 ≤ (covK f m 16).length) :
    Calls Try.prog 86 #[v] w (CovPost f m w) := by
  unfold CovPost
  obtain ⟨sa, cap, rfl, hnc, hcm⟩ := h.len
  unfold maxLen at hcm
  have c1 := Lib.hid (num_ok (.slice sa n cap) n l 0 2 0 2 (by decide) (by decide) (by omega) rfl rfl w h)
  have c2 := Lib.hid (num_ok (.slice sa n cap) n l 2 2 2 2 (by decide) (by decide) (by omega) rfl rfl w h)
  rw [hf] at c1
  rw [hm] at c2
  have d1 : decide ((n : Int) < 6) = false := by simp; omega
  have am : bits .and .u64 (m : Int) 1 = 1 := by rw [u64_and_one m (by omega), hm1]; rfl
  clear h hf hm
  replace am := Lib.hid am
  replace h2 := Lib.hid h2
  replace hm1 := Lib.hid hm1
  go_enter Try.func86, Try.ntmps86
  go_wp2_with fail
  refine Calls.mono c1.out ?_
  rintro e w1 ⟨rfl, rfl⟩
  clear c1
  go_wp2_with fail
  refine Calls.mono c2.out ?_
  rintro e w1 ⟨rfl, rfl⟩
  clear c2
  go_upto_region 7 with (fail)
  go_loopg [8, 23] 16 (fun m' s i wx => ∃ (k c : Nat) (so : Option Addr) (co : Nat), m' = 16 - k ∧ k ≤ 16 ∧ s = .slice so c co ∧ c ≤ k ∧ co ≤ 9223372036854775807 ∧ i = .int .u16 (k : Nat) ∧ Hid (EQ I16 24 wx w.heap.size (.slice so c co) c (covK f m k)) ∧ Hid (BW w wx))
  case atStart => exact ⟨0, 0, none, 0, by omega, by omega, rfl, by omega, by omega, rfl, EQ.nil _ _ _ _, BW.refl _⟩
  case round =>
    obtain ⟨k, c, so, co, rfl, hk, rfl, hck, hco, rfl, O, B⟩ := hrel
    by_cases hkn : k < 16
    · have d : decide ((k : Int) < 16) = true := by simp; omega
      have ha : bits .and .u64 ((m : Int) / 2 ^ k) 1 = ((m / 2 ^ k % 2 : Nat) : Int) := by
        rw [← u64_and_one (m / 2 ^ k) (Nat.lt_of_le_of_lt (Nat.div_le_self _ _) (by omega))]
        push_cast; rfl
      have hb := Nat.testBit_eq_decide_div_mod_eq (x := m) (i := k)
      have d2 : (((m / 2 ^ k % 2 : Nat) : Int) != 0) = m.testBit k := by
        rw [hb, Bool.eq_iff_iff, bne_iff_ne, decide_eq_true_iff]
        omega
      have q : IntKind.u16.wrap ((f : Int) + (k : Int)) = (((f + k) % 65536 : Nat) : Int) := by
        simp only [IntKind.wrap, IntKind.signed, IntKind.bits, IntKind.min, IntKind.max] <;> simp <;> omega
      have hx : (f + k) % 65536 < 65536 := Nat.mod_lt _ (by decide)
      generalize hX : (f + k) % 65536 = X at *
      generalize m / 2 ^ k % 2 = y at *
      replace hb := Lib.hid hb
      replace hX := Lib.hid hX
      cases htb : m.testBit k with
      | true =>
        have hcv := covK_yes (f := f) htb
        rw [htb] at d2
        rw [hX.out] at hcv
        replace htb := Lib.hid htb
        replace hcv := Lib.hid hcv
        obtain ⟨wq, rfl⟩ : ∃ y, y = wr := ⟨_, rfl⟩
        go_upto_region 10 with (fail)
        have BA : BW wq (wq.alloc (.cells #[.int .u16 (X : Nat)] 24)) := (BW.refl _).alloc
        have L3 := Lib.hid (Sls.new1 (E := I16) wq 24 [.int .u16 (X : Nat)] rfl)
        have O3 := Lib.hid (O.out.bw BA)
        have B3 := Lib.hid (B.out.trans BA)
        have hz3 := B3.out.size
        clear O B
        replace BA := Lib.hid BA
        go_wp2_with (at_builtin; go_must (refine wpList_apEQ slU16 rfl _ _ rfl w.heap.size (.slice so c co) c (covK f m k) rfl O3.out _ rfl 1 [X] [.int .u16 (X : Nat)] L3.out (EL.single rfl) rfl (by omega) hz3 (fun _ _ => trivial) ?_; intro s6 c6 w6 hc6 hm6 O6 T6 hb6 G6; unfold maxLen at hm6; replace O6 := Lib.hid O6; replace T6 := Lib.hid T6; clear G6 hb6))
        have B6 := Lib.hid (BW.stP B3.out T6.out (fun j hj => O3.out.ge' j (by simpa using hj)))
        rw [← hcv.out] at O6
        clear T6 O3 B3 L3 d ha d2 q
        go_wp2_with fail
        go_roundg (16 - (k + 1))
        case measure => omega
        case rel => exact ⟨k + 1, c + 1, s6, c6, rfl, by omega, rfl, by omega, hm6, by push_cast; rfl, O6, B6⟩
      | false =>
        have hcv := covK_no (f := f) htb
        rw [htb] at d2
        rw [← hcv] at O
        clear hcv
        replace htb := Lib.hid htb
        go_wp2_with fail
        go_roundg (16 - (k + 1))
        case measure => omega
        case rel => exact ⟨k + 1, c, so, co, rfl, by omega, rfl, by omega, hco, by push_cast; rfl, O, B⟩
    · obtain rfl : k = 16 := by omega
      have d : decide (((16 : Nat) : Int) < 16) = false := by simp
      have hl := O.out.1
      rw [hl] at h2
      have hc2 := h2.out
      have am2 := am.out
      have d3 : decide ((c : Int) < 2) = false := by simp; omega
      replace hl := Lib.hid hl
      go_wp2_with fail
      go_ret2
      exact ⟨_, rfl, O.out.full, B.out⟩
end Go.Proofs.Ytgiajnfmjpdodaa

namespace Go.Proofs.Ytgiajnfmjpdodaa
open Go.RowKit

def isSeq (s : Nat) (d : RtpD) : Bool := d.seq == s
set_option maxRecDepth 100000 in
set_option maxHeartbeats 8000000 in
theorem of1_any (d : RtpD) (c : Array Value) (s xb : Nat) (w : World) (h : RtpV w c d) (hx : w.cell? ⟨xb, 0, none⟩ = some (.int .u16 (s : Nat))) :
    Calls Try.prog 108 #[.agg c, .pointer (some ⟨xb, 0, none⟩)] w fun e w' => e = .returned (.bool (isSeq s d)) ∧ BW w w' := by
  obtain ⟨s5, c5, s8, c8, s9, c9, rfl, -, -, -⟩ := h.open
  have q : isSeq s d = ((d.seq : Int) == (s : Int)) := by
    unfold isSeq
    rw [Bool.eq_iff_iff, beq_iff_eq, beq_iff_eq]; omega
  simp only [rtpC]
  generalize isSeq s d = r at *
  generalize d.seq = sq at *
  clear h
  generalize d.marker = mk at *
  generalize d.typ = ty at *
  generalize d.stamp = st at *
  generalize d.source = so_ at *
  generalize d.others.length = no at *
  generalize d.ext = xb_ at *
  generalize d.profile = pf at *
  generalize d.extra.length = ne at *
  generalize d.payload.length = np at *
  generalize d.pad = pd at *
  have B2 : BW w (w.alloc (.cells #[.bool mk, .int .u8 (ty : Nat), .int .u16 (sq : Nat), .int .u32 (st : Nat), .int .u32 (so_ : Nat), .slice s5 no c5, .bool xb_, .int .u16 (pf : Nat), .slice s8 ne c8, .slice s9 np c9, .int .u8 (pd : Nat)] 28)) := (BW.refl w).alloc
  have x2 : (w.alloc (.cells #[.bool mk, .int .u8 (ty : Nat), .int .u16 (sq : Nat), .int .u32 (st : Nat), .int .u32 (so_ : Nat), .slice s5 no c5, .bool xb_, .int .u16 (pf : Nat), .slice s8 ne c8, .slice s9 np c9, .int .u8 (pd : Nat)] 28)).cell? ⟨w.heap.size, 2, none⟩ = some (.int .u16 (sq : Nat)) := hp_cell (HpB.new w _) 2
  have x3 := B2.cell hx
  clear hx
  replace q := Lib.hid q
  replace B2 := Lib.hid B2
  go_enter Try.func108, Try.ntmps108
  go_upto_region 1 with (fail)
  generalize w.alloc (.cells #[.bool mk, .int .u8 (ty : Nat), .int .u16 (sq : Nat), .int .u32 (st : Nat), .int .u32 (so_ : Nat), .slice s5 no c5, .bool xb_, .int .u16 (pf : Nat), .slice s8 ne c8, .slice s9 np c9, .int .u8 (pd : Nat)] 28) = w1 at *
  generalize w.heap.size = g at *
  go_wp2_with fail
  go_ret
  rw [q.out]
  exact ⟨rfl, B2.out⟩

def IdxPost (D : List RtpD) (s : Nat) (w : World) (e : Ending) (w' : World) : Prop :=
  ((e = .returned (.int .i64 (-1)) ∧ D.find? (isSeq s) = none) ∨ ∃ (i : Nat) (h : i < D.length), e = .returned (.int .i64 (i : Nat)) ∧ D.find? (isSeq s) = some D[i]) ∧ BW w w'
set_option maxRecDepth 100000 in
set_option maxHeartbeats 8000000 in
theorem idxseq_any (v : Value) (n : Nat) (D : List RtpD) (s xb : Nat) (w : World) (h : RL w v n D) (hn : n ≤ 1000000) (hx : w.cell? ⟨xb, 0, none⟩ = some (.int .u16 (s : Nat))) :
    Calls Try.prog 107 #[v, .func (.func 108) #[] #[.pointer (some ⟨xb, 0, none⟩)]] w (IdxPost D s w) := by
  unfold IdxPost
  obtain ⟨sa, cap, rfl, hnc, hcm⟩ := h.sl
  unfold maxLen at hcm
  have hH := Lib.hid h
  have hdl := Lib.hid h.dl
  clear h
  have hA : D.find? (isSeq s) = (D.drop 0).find? (isSeq s) := by rw [List.drop_zero]
  generalize D.find? (isSeq s) = R at *
  replace hA := Lib.hid hA
  replace hx := Lib.hid hx
  go_enter Try.func107, Try.ntmps107
  go_upto_region 2 with (fail)
  go_loopg [8] n (fun m' i wx => ∃ k : Nat, m' = n - k ∧ k ≤ n ∧ i = .int .i64 (k : Nat) ∧ Hid (R = (D.drop k).find? (isSeq s)) ∧ Hid (BW w wx))
  case atStart => exact ⟨0, by omega, by omega, rfl, hA, BW.refl _⟩
  case round =>
    clear hA
    obtain ⟨k, rfl, hk, rfl, hA, B⟩ := hrel
    by_cases hkn : k < n
    · have d : decide ((k : Int) < (n : Int)) = true := by simp; omega
      have hkD : k < D.length := by rw [hdl.out]; exact hkn
      obtain ⟨b, o, rfl, hc⟩ := (hH.out.bw B.out).form (by omega)
      obtain ⟨s5, c5, s8, c8, s9, c9, hV, n1, m1, n2, m2, n3, m3, hcc⟩ := hc k hkD
      have z0 := hcc 0 (by decide)
      have z1 := hcc 1 (by decide)
      have z2 := hcc 2 (by decide)
      have z3 := hcc 3 (by decide)
      have z4 := hcc 4 (by decide)
      have z5 := hcc 5 (by decide)
      have z6 := hcc 6 (by decide)
      have z7 := hcc 7 (by decide)
      have z8 := hcc 8 (by decide)
      have z9 := hcc 9 (by decide)
      have z10 := hcc 10 (by decide)
      simp only [rtpC, List.getElem?_toArray, List.getElem?_cons_zero, List.getElem?_cons_succ, Nat.add_zero] at z0 z1 z2 z3 z4 z5 z6 z7 z8 z9 z10
      have hA2 := hA.out
      rw [List.drop_eq_getElem_cons hkD, List.find?_cons] at hA2
      have cF := Lib.hid (of1_any D[k] _ s xb wr hV (B.out.cell hx.out))
      simp only [rtpC] at cF
      clear hcc hc hV hA
      generalize hdk : D[k] = d at *
      generalize d.seq = sq at *
      generalize d.marker = mk at *
      generalize d.typ = ty at *
      generalize d.stamp = st at *
      generalize d.source = so_ at *
      generalize d.others.length = no at *
      generalize d.ext = xb_ at *
      generalize d.profile = pf at *
      generalize d.extra.length = ne at *
      generalize d.payload.length = np at *
      generalize d.pad = pd at *
      replace hA2 := Lib.hid hA2
      replace hdk := Lib.hid hdk
      go_wp2_with fail
      refine Calls.mono cF.out ?_
      rintro e w2 ⟨rfl, hb⟩
      have B2 := Lib.hid (B.out.trans hb)
      clear cF z0 z1 z2 z3 z4 z5 z6 z7 z8 z9 z10 hb B
      dsimp only
      cases hq : isSeq s d with
      | true =>
        have hR : R = some d := by rw [hA2.out, hq]
        replace hR := Lib.hid hR
        replace hA2 := Lib.hid hA2
        replace hq := Lib.hid hq
        go_wp2_with fail
        go_ret
        exact ⟨.inr ⟨k, hkD, rfl, by rw [hdk.out]; exact hR.out⟩, B2.out⟩
      | false =>
        have hR : R = (D.drop (k + 1)).find? (isSeq s) := by rw [hA2.out, hq]
        replace hR := Lib.hid hR
        replace hA2 := Lib.hid hA2
        replace hq := Lib.hid hq
        go_wp2_with fail
        go_roundg (n - (k + 1))
        case measure => omega
        case rel => exact ⟨k + 1, rfl, by omega, by push_cast; rfl, hR, B2⟩
    · obtain rfl : k = n := by omega
      have d : decide ((k : Int) < (k : Int)) = false := by simp
      have hR : R = none := by rw [hA.out, List.drop_of_length_le (by rw [hdl.out]; exact Nat.le_refl _)]; rfl
      replace hR := Lib.hid hR
      go_wp2_with fail
      go_ret
      exact ⟨.inl ⟨rfl, hR.out⟩, B.out⟩
end Go.Proofs.Ytgiajnfmjpdodaa

namespace Go.Proofs.Ytgiajnfmjpdodaa
open Go.RowKit

def OfPost (D : List RtpD) (s : Nat) (w : World) (e : Ending) (w' : World) : Prop :=
  ((∃ (d : RtpD) (c : Array Value), D.find? (isSeq s) = some d ∧ e = .returned (.tuple #[.agg c, .bool true]) ∧ RtpV w c d) ∨ (D.find? (isSeq s) = none ∧ e = .returned (.tuple #[.agg zC, .bool false]))) ∧ BW w w'
set_option maxRecDepth 100000 in
set_option maxHeartbeats 8000000 in
theorem of_any (v : Value) (n : Nat) (D : List RtpD) (s : Nat) (w : World) (h : RL w v n D) (hn : n ≤ 1000000) :
    Calls Try.prog 90 #[v, .int .u16 (s : Nat)] w (OfPost D s w) := by
  unfold OfPost
  have hmf : ∀ (fn : Fn) (first cap : Array Value) (w : World), (Instr.makeFunc fn first cap).run Try.prog w = .ok (.func fn first cap) w := fun _ _ _ _ => rfl
  obtain ⟨sa, cap, rfl, hnc, hcm⟩ := h.sl
  unfold maxLen at hcm
  have B1 : Hid (BW w ((w.alloc (.cells #[.int .u16 (s : Nat)] 24)).alloc (.cells #[.bool false, .int .u8 0, .int .u16 0, .int .u32 0, .int .u32 0, .slice none 0 0, .bool false, .int .u16 0, .slice none 0 0, .slice none 0 0, .int .u8 0] 28))) := ((BW.refl w).alloc).alloc
  have x1 : ((w.alloc (.cells #[.int .u16 (s : Nat)] 24)).alloc (.cells #[.bool false, .int .u8 0, .int .u16 0, .int .u32 0, .int .u32 0, .slice none 0 0, .bool false, .int .u16 0, .slice none 0 0, .slice none 0 0, .int .u8 0] 28)).cell? ⟨w.heap.size, 0, none⟩ = some (.int .u16 (s : Nat)) := ((BW.refl _).alloc).cell (hp_cell (HpB.new w _) 0)
  have Z1 : Hid (PkV ((w.alloc (.cells #[.int .u16 (s : Nat)] 24)).alloc (.cells #[.bool false, .int .u8 0, .int .u16 0, .int .u32 0, .int .u32 0, .slice none 0 0, .bool false, .int .u16 0, .slice none 0 0, .slice none 0 0, .int .u8 0] 28)) (w.heap.size + 1) zC) := HpB.newAt _ _ _ (by simp)
  have hz1 : w.heap.size + 1 < ((w.alloc (.cells #[.int .u16 (s : Nat)] 24)).alloc (.cells #[.bool false, .int .u8 0, .int .u16 0, .int .u32 0, .int .u32 0, .slice none 0 0, .bool false, .int .u16 0, .slice none 0 0, .slice none 0 0, .int .u8 0] 28)).heap.size := by simp
  have hH := Lib.hid h
  have hdl := Lib.hid h.dl
  clear h
  replace x1 := Lib.hid x1
  go_enter Try.func90, Try.ntmps90
  go_upto_region 1 with (fail)
  generalize (w.alloc (.cells #[.int .u16 (s : Nat)] 24)).alloc (.cells #[.bool false, .int .u8 0, .int .u16 0, .int .u32 0, .int .u32 0, .slice none 0 0, .bool false, .int .u16 0, .slice none 0 0, .slice none 0 0, .int .u8 0] 28) = w1 at *
  have cI := Lib.hid (idxseq_any _ _ _ s w.heap.size w1 (hH.out.bw B1.out) hn x1.out)
  unfold IdxPost at cI
  clear x1
  go_wp2_with fail
  refine Calls.mono cI.out ?_
  rintro e w2 ⟨hr, hb⟩
  have B2 := Lib.hid (B1.out.trans hb)
  have Z2 := Z1.out.bw hb
  have hz2 := HpB.lt Z2
  replace Z2 := Lib.hid Z2
  clear cI hb Z1 B1
  rcases hr with ⟨rfl, hf⟩ | ⟨i, hi, rfl, hf⟩
  · replace hf := Lib.hid hf
    dsimp only
    go_upto_region 3 with (fail)
    have z0 := hp_cell (Z2.out) 0
    have y0 := hp_frz (Z2.out) 0
    have z1 := hp_cell (Z2.out) 1
    have y1 := hp_frz (Z2.out) 1
    have z2 := hp_cell (Z2.out) 2
    have y2 := hp_frz (Z2.out) 2
    have z3 := hp_cell (Z2.out) 3
    have y3 := hp_frz (Z2.out) 3
    have z4 := hp_cell (Z2.out) 4
    have y4 := hp_frz (Z2.out) 4
    have z5 := hp_cell (Z2.out) 5
    have y5 := hp_frz (Z2.out) 5
    have z6 := hp_cell (Z2.out) 6
    have y6 := hp_frz (Z2.out) 6
    have z7 := hp_cell (Z2.out) 7
    have y7 := hp_frz (Z2.out) 7
    have z8 := hp_cell (Z2.out) 8
    have y8 := hp_frz (Z2.out) 8
    have z9 := hp_cell (Z2.out) 9
    have y9 := hp_frz (Z2.out) 9
    have z10 := hp_cell (Z2.out) 10
    have y10 := hp_frz (Z2.out) 10
    simp only [zC, rtpC, List.getElem?_toArray, List.getElem?_cons_zero, List.getElem?_cons_succ] at z0 z1 z2 z3 z4 z5 z6 z7 z8 z9 z10
    go_wp2_with fail
    clear z0 z1 z2 z3 z4 z5 z6 z7 z8 z9 z10 y0 y1 y2 y3 y4 y5 y6 y7 y8 y9 y10
    have TS := still_set11 w2 (w.heap.size + 1) (.bool false) (.int .u8 0) (.int .u16 0) (.int .u32 0) (.int .u32 0) (.slice none 0 0) (.bool false) (.int .u16 0) (.slice none 0 0) (.slice none 0 0) (.int .u8 0)
    have Z4 := Z2.out.set11 rfl (.bool false) (.int .u8 0) (.int .u16 0) (.int .u32 0) (.int .u32 0) (.slice none 0 0) (.bool false) (.int .u16 0) (.slice none 0 0) (.slice none 0 0) (.int .u8 0)
    have T4 := B2.out.stl TS (by simp)
    have z0 := hp_cell (Z4) 0
    have z1 := hp_cell (Z4) 1
    have z2 := hp_cell (Z4) 2
    have z3 := hp_cell (Z4) 3
    have z4 := hp_cell (Z4) 4
    have z5 := hp_cell (Z4) 5
    have z6 := hp_cell (Z4) 6
    have z7 := hp_cell (Z4) 7
    have z8 := hp_cell (Z4) 8
    have z9 := hp_cell (Z4) 9
    have z10 := hp_cell (Z4) 10
    simp only [List.getElem?_toArray, List.getElem?_cons_zero, List.getElem?_cons_succ] at z0 z1 z2 z3 z4 z5 z6 z7 z8 z9 z10
    replace Z4 := Lib.hid Z4
    replace TS := Lib.hid TS
    replace T4 := Lib.hid T4
    exact bodyPost_ret (v := .tuple #[.agg zC, .bool false]) (by simp [results, Try.results90, go_sem, z0, z1, z2, z3, z4, z5, z6, z7, z8, z9, z10, zC, rtpC]) rfl ⟨.inr ⟨hf.out, rfl⟩, T4.out⟩
  · have hin : i < n := by rw [← hdl.out]; exact hi
    obtain ⟨b, o, rfl, hc⟩ := hH.out.form (by omega)
    obtain ⟨s5, c5, s8, c8, s9, c9, hV, n1, m1, n2, m2, n3, m3, hcc⟩ := hc i hi
    have cc := fun j (hj : j < 11) => hcc j hj
    simp only [rtpC] at hcc
    have k0 := B2.out.cell (hcc 0 (by decide))
    have k1 := B2.out.cell (hcc 1 (by decide))
    have k2 := B2.out.cell (hcc 2 (by decide))
    have k3 := B2.out.cell (hcc 3 (by decide))
    have k4 := B2.out.cell (hcc 4 (by decide))
    have k5 := B2.out.cell (hcc 5 (by decide))
    have k6 := B2.out.cell (hcc 6 (by decide))
    have k7 := B2.out.cell (hcc 7 (by decide))
    have k8 := B2.out.cell (hcc 8 (by decide))
    have k9 := B2.out.cell (hcc 9 (by decide))
    have k10 := B2.out.cell (hcc 10 (by decide))
    simp only [Nat.add_zero] at k0
    clear hcc cc hc
    generalize hd : D[i] = d at *
    simp only [rtpC] at hV
    generalize d.marker = mk at *
    generalize d.typ = ty at *
    generalize d.seq = sq at *
    generalize d.stamp = st at *
    generalize d.source = so_ at *
    generalize d.others.length = no at *
    generalize d.ext = xb_ at *
    generalize d.profile = pf at *
    generalize d.extra.length = ne at *
    generalize d.payload.length = np at *
    generalize d.pad = pd at *
    replace hV := Lib.hid hV
    replace hf := Lib.hid hf
    replace hd := Lib.hid hd
    dsimp only
    go_upto_region 4 with (fail)
    have z0 := hp_cell (Z2.out) 0
    have y0 := hp_frz (Z2.out) 0
    have z1 := hp_cell (Z2.out) 1
    have y1 := hp_frz (Z2.out) 1
    have z2 := hp_cell (Z2.out) 2
    have y2 := hp_frz (Z2.out) 2
    have z3 := hp_cell (Z2.out) 3
    have y3 := hp_frz (Z2.out) 3
    have z4 := hp_cell (Z2.out) 4
    have y4 := hp_frz (Z2.out) 4
    have z5 := hp_cell (Z2.out) 5
    have y5 := hp_frz (Z2.out) 5
    have z6 := hp_cell (Z2.out) 6
    have y6 := hp_frz (Z2.out) 6
    have z7 := hp_cell (Z2.out) 7
    have y7 := hp_frz (Z2.out) 7
    have z8 := hp_cell (Z2.out) 8
    have y8 := hp_frz (Z2.out) 8
    have z9 := hp_cell (Z2.out) 9
    have y9 := hp_frz (Z2.out) 9
    have z10 := hp_cell (Z2.out) 10
    have y10 := hp_frz (Z2.out) 10
    simp only [zC, rtpC, List.getElem?_toArray, List.getElem?_cons_zero, List.getElem?_cons_succ] at z0 z1 z2 z3 z4 z5 z6 z7 z8 z9 z10
    go_wp2_with fail
    clear z0 z1 z2 z3 z4 z5 z6 z7 z8 z9 z10 y0 y1 y2 y3 y4 y5 y6 y7 y8 y9 y10 k0 k1 k2 k3 k4 k5 k6 k7 k8 k9 k10
    have TS := still_set11 w2 (w.heap.size + 1) (.bool mk) (.int .u8 (ty : Nat)) (.int .u16 (sq : Nat)) (.int .u32 (st : Nat)) (.int .u32 (so_ : Nat)) (.slice s5 no c5) (.bool xb_) (.int .u16 (pf : Nat)) (.slice s8 ne c8) (.slice s9 np c9) (.int .u8 (pd : Nat))
    have Z4 := Z2.out.set11 rfl (.bool mk) (.int .u8 (ty : Nat)) (.int .u16 (sq : Nat)) (.int .u32 (st : Nat)) (.int .u32 (so_ : Nat)) (.slice s5 no c5) (.bool xb_) (.int .u16 (pf : Nat)) (.slice s8 ne c8) (.slice s9 np c9) (.int .u8 (pd : Nat))
    have T4 := B2.out.stl TS (by simp)
    have z0 := hp_cell (Z4) 0
    have z1 := hp_cell (Z4) 1
    have z2 := hp_cell (Z4) 2
    have z3 := hp_cell (Z4) 3
    have z4 := hp_cell (Z4) 4
    have z5 := hp_cell (Z4) 5
    have z6 := hp_cell (Z4) 6
    have z7 := hp_cell (Z4) 7
    have z8 := hp_cell (Z4) 8
    have z9 := hp_cell (Z4) 9
    have z10 := hp_cell (Z4) 10
    simp only [List.getElem?_toArray, List.getElem?_cons_zero, List.getElem?_cons_succ] at z0 z1 z2 z3 z4 z5 z6 z7 z8 z9 z10
    replace Z4 := Lib.hid Z4
    replace TS := Lib.hid TS
    replace T4 := Lib.hid T4
    exact bodyPost_ret (v := .tuple #[.agg #[.bool mk, .int .u8 (ty : Nat), .int .u16 (sq : Nat), .int .u32 (st : Nat), .int .u32 (so_ : Nat), .slice s5 no c5, .bool xb_, .int .u16 (pf : Nat), .slice s8 ne c8, .slice s9 np c9, .int .u8 (pd : Nat)], .bool true]) (by simp [results, Try.results90, go_sem, z0, z1, z2, z3, z4, z5, z6, z7, z8, z9, z10]) rfl ⟨.inl ⟨_, _, hf.out, rfl, hV.out⟩, T4.out⟩
end Go.Proofs.Ytgiajnfmjpdodaa
