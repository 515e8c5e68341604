/- Covers of packets: the packets that are read; great; seqs. No condition but the sizes'. Covers of packets: their numbers; whether all are near. No condition but the sizes'. Covers of packets: the least number, to which all others are near ahead. No condition but the sizes'. Covers of packets: the mask. No condition but the sizes'. Covers of packets: a packet's text. No condition but the sizes'. Covers of packets: xor of rows. No condition but the sizes'. Covers of packets: rows of bytes that grow. No condition but the sizes'. -/
import Derived.Test.YtgiajnfmjpdodaaRtN
import Derived.Test.YtgiajnfmjpdodaaRtR
import Derived.Test.YtgiajnfmjpdodaaEl
import Derived.Test.YtgiajnfmjpdodaaCct
import Derived.Test.YtgiajnfmjpdodaaNum
import Derived.Test.YtgiajnfmjpdodaaIB
namespace Go.Proofs.Ytgiajnfmjpdodaa
open Go.RowKit

/-- v reads as packets. -/
structure RL (w : World) (v : Value) (n : Nat) (D : List RtpD) : Prop where
  dl : D.length = n
  sl : ∃ sa cap, v = .slice sa n cap ∧ n ≤ cap ∧ cap ≤ maxLen
  at_ : 0 < n → ∃ b o cap, v = .slice (some ⟨b, o, none⟩) n cap ∧ ∀ i (h : i < D.length), ∃ c : Array Value, RtpV w c D[i] ∧ ∀ j, j < 11 → w.cell? ⟨b, o + i * 11 + j, none⟩ = c[j]?
  wf : ∀ d ∈ D, RtpWf d
theorem RL.bw {w w' : World} {v : Value} {n : Nat} {D : List RtpD} (h : RL w v n D) (hb : BW w w') : RL w' v n D := by
  refine ⟨h.dl, h.sl, fun h0 => ?_, h.wf⟩
  obtain ⟨b, o, cap, e, hc⟩ := h.at_ h0
  refine ⟨b, o, cap, e, fun i hi => ?_⟩
  obtain ⟨c, hv, hcc⟩ := hc i hi
  refine ⟨c, hv.bw hb, fun j hj => ?_⟩
  obtain ⟨ov, ev, pv, rfl, _⟩ := hv
  have h1 := hcc j hj
  obtain ⟨u, hu⟩ : ∃ u, (rtpC (D[i]).marker (D[i]).typ (D[i]).seq (D[i]).stamp (D[i]).source ov (D[i]).ext (D[i]).profile ev pv (D[i]).pad)[j]? = some u := ⟨_, Array.getElem?_eq_getElem (show j < 11 from hj)⟩
  rw [hu] at h1 ⊢
  exact hb.cell h1
/-- The cells of a packet that is read. -/
theorem RL.form {w : World} {sa : Option Addr} {n cap : Nat} {D : List RtpD} (h : RL w (.slice sa n cap) n D) (h0 : 0 < n) : ∃ b o, sa = some ⟨b, o, none⟩ ∧ ∀ i (hi : i < D.length), ∃ so co se ce sp cp,
    RtpV w (rtpC (D[i]).marker (D[i]).typ (D[i]).seq (D[i]).stamp (D[i]).source (.slice so (D[i]).others.length co) (D[i]).ext (D[i]).profile (.slice se (D[i]).extra.length ce) (.slice sp (D[i]).payload.length cp) (D[i]).pad) D[i] ∧
    (D[i]).others.length ≤ co ∧ co ≤ 9223372036854775807 ∧ (D[i]).extra.length ≤ ce ∧ ce ≤ 9223372036854775807 ∧ (D[i]).payload.length ≤ cp ∧ cp ≤ 9223372036854775807 ∧
    ∀ j, j < 11 → w.cell? ⟨b, o + i * 11 + j, none⟩ = (rtpC (D[i]).marker (D[i]).typ (D[i]).seq (D[i]).stamp (D[i]).source (.slice so (D[i]).others.length co) (D[i]).ext (D[i]).profile (.slice se (D[i]).extra.length ce) (.slice sp (D[i]).payload.length cp) (D[i]).pad)[j]? := by
  obtain ⟨b, o, cap', e, hc⟩ := h.at_ h0
  simp only [Value.slice.injEq] at e
  refine ⟨b, o, e.1, fun i hi => ?_⟩
  obtain ⟨c, hv, hcc⟩ := hc i hi
  obtain ⟨so_, co, se, ce, sp, cp, rfl, N, E, D'⟩ := hv.open
  obtain ⟨_, _, e1, n1, m1⟩ := N.len
  obtain ⟨_, _, e2, n2, m2⟩ := E.len
  obtain ⟨_, _, e3, n3, m3⟩ := D'.len
  simp only [Value.slice.injEq, true_and] at e1 e2 e3
  obtain ⟨rfl, rfl⟩ := e1
  obtain ⟨rfl, rfl⟩ := e2
  obtain ⟨rfl, rfl⟩ := e3
  unfold maxLen at m1 m2 m3
  exact ⟨so_, co, se, ce, sp, cp, hv, n1, m1, n2, m2, n3, m3, hcc⟩
theorem rtps_at {w : World} {a : Option Addr} {len cap : Nat} (h : Rd w (.loop rtpTy) [.slice a len cap]) : ∃ D, RL w (.slice a len cap) len D := by
  obtain ⟨h1, h2, h3⟩ := Rd.slice_at h (by decide)
  rcases h3 with ⟨_, h, _⟩ | ⟨_, h, _⟩ | ⟨b, o, rfl, hb, hc, hi⟩
  · exact ⟨[], by simp [h], ⟨_, _, rfl, h1, h2⟩, fun h0 => by omega, fun d hd => by cases hd⟩
  · exact ⟨[], by simp [h], ⟨_, _, rfl, h1, h2⟩, fun h0 => by omega, fun d hd => by cases hd⟩
  · have key : ∀ i, i < len → ∃ d, RtpWf d ∧ ∃ c : Array Value, RtpV w c d ∧ ∀ j, j < 11 → w.cell? ⟨b, o + i * 11 + j, none⟩ = c[j]? := fun i hil => by
      obtain ⟨cs, hl, hr, hx⟩ := hi i (by omega)
      obtain ⟨d, hv, hw⟩ := RtpV_of_Rd (cs := cs.toArray) hr
      exact ⟨d, hw, cs.toArray, hv, fun j hj => by rw [List.getElem?_toArray]; exact hx j hj⟩
    have pick : ∀ m, m ≤ len → ∃ D : List RtpD, D.length = m ∧ (∀ d ∈ D, RtpWf d) ∧ ∀ i (h : i < D.length), ∃ c : Array Value, RtpV w c D[i] ∧ ∀ j, j < 11 → w.cell? ⟨b, o + i * 11 + j, none⟩ = c[j]? := by
      intro m
      induction m with
      | zero => exact fun _ => ⟨[], rfl, (fun d hd => by cases hd), fun i h => by simp at h⟩
      | succ m ih =>
        intro hm
        obtain ⟨D, e1, e2, e3⟩ := ih (by omega)
        obtain ⟨d, k1, c, k2, k3⟩ := key m (by omega)
        refine ⟨D ++ [d], by rw [List.length_append, e1]; rfl, fun x hx => ?_, fun i hi => ?_⟩
        · rcases List.mem_append.1 hx with hx | hx
          · exact e2 x hx
          · obtain rfl : x = d := by simpa using hx
            exact k1
        · by_cases hil : i < D.length
          · rw [List.getElem_append_left hil]; exact e3 i hil
          · rw [List.length_append, List.length_singleton] at hi
            obtain rfl : i = D.length := by omega
            rw [List.getElem_append_right (Nat.le_refl _)]
            simp only [Nat.sub_self, List.getElem_singleton]
            rw [e1]
            exact ⟨c, k2, k3⟩
    obtain ⟨D, e1, e2, e3⟩ := pick len (Nat.le_refl _)
    exact ⟨D, e1, ⟨_, _, rfl, h1, h2⟩, fun _ => ⟨b, o, cap, rfl, e3⟩, e2⟩

/-- More than the statements look at. -/
def bigD (d : RtpD) : Bool := decide (1500 < d.payload.length ∨ 1500 < d.extra.length ∨ 100 < d.others.length)
def greatB (D : List RtpD) : Bool := D.any bigD || decide (40 < D.length)
set_option maxRecDepth 100000 in
set_option maxHeartbeats 8000000 in
theorem great_any (v : Value) (n : Nat) (D : List RtpD) (w : World) (h : RL w v n D) :
    Calls Try.prog 37 #[v] w fun e w' => e = .returned (.bool (greatB D)) ∧ w = w' := by
  obtain ⟨sa, cap, rfl, hnc, hcm⟩ := h.sl
  unfold maxLen at hcm
  have hH := Lib.hid h
  have hdl := Lib.hid h.dl
  clear h
  have hG : greatB D = ((D.drop 0).any bigD || decide (40 < n)) := by rw [List.drop_zero, ← hdl.out]; rfl
  replace hG := Lib.hid hG
  go_enter Try.func37, Try.ntmps37
  go_upto_region 2 with (fail)
  go_loopg [3] n (fun m' i wx => ∃ k : Nat, m' = n - k ∧ k ≤ n ∧ i = .int .i64 (k : Nat) ∧ Hid (greatB D = ((D.drop k).any bigD || decide (40 < n))) ∧ w = wx)
  case atStart => exact ⟨0, by omega, by omega, rfl, hG, rfl⟩
  case round =>
    clear hG
    obtain ⟨k, rfl, hk, rfl, hG, rfl⟩ := hrel
    by_cases hkn : k < n
    · have d : decide ((k : Int) < (n : Int)) = true := by simp; omega
      obtain ⟨b, o, rfl, hc⟩ := hH.out.form (by omega)
      have hkD : k < D.length := by rw [hdl.out]; exact hkn
      obtain ⟨so, co, se, ce, sp, cp, -, n1, m1, n2, m2, n3, m3, hcc⟩ := hc k hkD
      have z9 := hcc 9 (by decide)
      have z8 := hcc 8 (by decide)
      have z5 := hcc 5 (by decide)
      simp only [rtpC, List.getElem?_toArray, List.getElem?_cons_zero, List.getElem?_cons_succ] at z9 z8 z5
      have hG2 := hG.out
      rw [List.drop_eq_getElem_cons hkD, List.any_cons] at hG2
      have hbg : bigD D[k] = decide (1500 < (D[k]).payload.length ∨ 1500 < (D[k]).extra.length ∨ 100 < (D[k]).others.length) := rfl
      rw [hbg] at hG2
      clear hcc hc hbg
      generalize (D[k]).payload.length = np at *
      generalize (D[k]).extra.length = ne at *
      generalize (D[k]).others.length = no at *
      by_cases h1 : 1500 < np
      · have t1 : decide ((1500 : Int) < (np : Int)) = true := by simp; omega
        have hR : greatB D = true := by rw [hG2, decide_eq_true (.inl h1)]; rfl
        replace hR := Lib.hid hR
        replace hG2 := Lib.hid hG2
        go_wp2_with fail
        go_ret
        rw [hR.out]
        exact ⟨rfl, rfl⟩
      have t1 : decide ((1500 : Int) < (np : Int)) = false := by simp; omega
      by_cases h2 : 1500 < ne
      · have t2 : decide ((1500 : Int) < (ne : Int)) = true := by simp; omega
        have hR : greatB D = true := by rw [hG2, decide_eq_true (.inr (.inl h2))]; rfl
        replace hR := Lib.hid hR
        replace hG2 := Lib.hid hG2
        go_wp2_with fail
        go_ret
        rw [hR.out]
        exact ⟨rfl, rfl⟩
      have t2 : decide ((1500 : Int) < (ne : Int)) = false := by simp; omega
      by_cases h3 : 100 < no
      · have t3 : decide ((100 : Int) < (no : Int)) = true := by simp; omega
        have hR : greatB D = true := by rw [hG2, decide_eq_true (.inr (.inr h3))]; rfl
        replace hR := Lib.hid hR
        replace hG2 := Lib.hid hG2
        go_wp2_with fail
        go_ret
        rw [hR.out]
        exact ⟨rfl, rfl⟩
      have t3 : decide ((100 : Int) < (no : Int)) = false := by simp; omega
      have hR : greatB D = ((D.drop (k + 1)).any bigD || decide (40 < n)) := by rw [hG2, decide_eq_false (by omega), Bool.false_or]
      replace hR := Lib.hid hR
      replace hG2 := Lib.hid hG2
      go_wp2_with fail
      go_roundg (n - (k + 1))
      case measure => omega
      case rel => exact ⟨k + 1, rfl, by omega, by push_cast; rfl, hR, rfl⟩
    · obtain rfl : k = n := by omega
      have d : decide ((k : Int) < (k : Int)) = false := by simp
      have hR : greatB D = decide ((40 : Int) < (k : Int)) := by
        rw [hG.out, List.drop_of_length_le (by rw [hdl.out]; exact Nat.le_refl _), List.any_nil, Bool.false_or]
        exact decide_eq_decide.2 (by omega)
      replace hR := Lib.hid hR
      go_wp2_with fail
      go_ret
      rw [hR.out]
      exact ⟨rfl, rfl⟩
end Go.Proofs.Ytgiajnfmjpdodaa

namespace Go.Proofs.Ytgiajnfmjpdodaa
open Go.RowKit

/-- Numbers of 16 bits. -/
def I16 : Elt Nat where
  size := 1
  R := fun _ _ a c => c = [.int .u16 (a : Nat)]
  Ok := fun _ _ => True
  pos := by decide
  len := fun e => by rw [e]; rfl
  one := fun e u hu => by rw [e] at hu; simp at hu; rw [hu]; rfl
  bw := fun e _ => e
  up := fun e _ => e
  still := fun e _ _ => e
  old := fun e _ _ => e
theorem slU16 : SlTy Try.prog 114 24 1 2 := SlTy.mk' Try.underlying114 (by kernel_rfl) (by decide)
theorem i16_form {T : TypeId} {w : World} {base : Nat} {sv : Option Addr} {n cap : Nat} {L : List Nat} (h : EQ I16 T w base (.slice sv n cap) n L) (h0 : 0 < n) :
    ∃ g o, sv = some ⟨g, o, none⟩ ∧ ∀ i (hi : i < L.length), w.cell? ⟨g, o + i, none⟩ = some (.int .u16 (L[i] : Nat)) := by
  obtain ⟨g, o, cap', hsl, _, _, _, _, hce⟩ := h.form h0
  simp only [Value.slice.injEq] at hsl
  refine ⟨g, o, hsl.1, fun i hi => ?_⟩
  obtain ⟨c, hc, hcc⟩ := hce i hi
  have hc' : c = [.int .u16 (L[i] : Nat)] := hc
  have z0 := hcc 0 (by decide)
  have e2 : I16.size = 1 := rfl
  rw [hc', e2, Nat.mul_one] at z0
  exact z0
def seqsN (D : List RtpD) : List Nat := D.map RtpD.seq
set_option maxRecDepth 100000 in
set_option maxHeartbeats 8000000 in
theorem seqs_any (v : Value) (n : Nat) (D : List RtpD) (w : World) (h : RL w v n D) (hn : n ≤ 1000000) :
    Calls Try.prog 74 #[v] w fun e w' => ∃ u, e = .returned u ∧ EQ I16 24 w' w.heap.size u n (seqsN D) ∧ BW w w' := by
  obtain ⟨sa, cap, rfl, hnc, hcm⟩ := h.sl
  unfold maxLen at hcm
  have hH := Lib.hid h
  have hdl := Lib.hid h.dl
  clear h
  have hmk : ∀ k (hk : k < D.length), (seqsN D).take (k + 1) = (seqsN D).take k ++ [(D[k]).seq] := fun k hk => by
    unfold seqsN
    rw [List.take_succ_eq_append_getElem (by simpa using hk), List.getElem_map]
  have hml : (seqsN D).length = D.length := by simp [seqsN]
  generalize seqsN D = M at *
  replace hmk := Lib.hid hmk
  replace hml := Lib.hid hml
  go_enter Try.func74, Try.ntmps74
  go_upto_region 3 with (fail)
  go_loopg [3, 8] n (fun m' s i wx => ∃ (k : Nat) (so : Option Addr) (co : Nat), m' = n - k ∧ k ≤ n ∧ s = .slice so k co ∧ co ≤ 9223372036854775807 ∧ i = .int .i64 (k : Nat) ∧ Hid (EQ I16 24 wx w.heap.size (.slice so k co) k (M.take k)) ∧ Hid (BW w wx))
  case atStart => exact ⟨0, none, 0, by omega, by omega, rfl, by omega, rfl, EQ.nil _ _ _ _, BW.refl _⟩
  case round =>
    obtain ⟨k, so, co, rfl, hk, rfl, hco, rfl, O, B⟩ := hrel
    by_cases hkn : k < n
    · have d : decide ((k : Int) < (n : Int)) = true := by simp; omega
      obtain ⟨b, o, rfl, hc⟩ := (hH.out.bw B.out).form (by omega)
      have hkD : k < D.length := by rw [hdl.out]; exact hkn
      obtain ⟨s5, c5, s8, c8, s9, c9, -, n1, m1, n2, m2, n3, m3, hcc⟩ := hc k hkD
      have z0 := hcc 0 (by decide)
      have z1 := hcc 1 (by decide)
      have z2 := hcc 2 (by decide)
      have z3 := hcc 3 (by decide)
      have z4 := hcc 4 (by decide)
      have z5 := hcc 5 (by decide)
      have z6 := hcc 6 (by decide)
      have z7 := hcc 7 (by decide)
      have z8 := hcc 8 (by decide)
      have z9 := hcc 9 (by decide)
      have z10 := hcc 10 (by decide)
      simp only [rtpC, List.getElem?_toArray, List.getElem?_cons_zero, List.getElem?_cons_succ, Nat.add_zero] at z0 z1 z2 z3 z4 z5 z6 z7 z8 z9 z10
      have hmk2 := hmk.out k hkD
      clear hcc hc
      generalize (D[k]).seq = sq at *
      generalize (D[k]).marker = mk at *
      generalize (D[k]).typ = ty at *
      generalize (D[k]).stamp = st at *
      generalize (D[k]).source = so_ at *
      generalize (D[k]).others.length = no at *
      generalize (D[k]).ext = xb at *
      generalize (D[k]).profile = pf at *
      generalize (D[k]).extra.length = ne at *
      generalize (D[k]).payload.length = np at *
      generalize (D[k]).pad = pd at *
      replace hmk2 := Lib.hid hmk2
      obtain ⟨wq, rfl⟩ : ∃ y, y = wr := ⟨_, rfl⟩
      go_upto_region 5 with (fail)
      obtain ⟨w2, hw2⟩ : ∃ w2, w2 = wq.alloc (.cells #[.bool mk, .int .u8 (ty : Nat), .int .u16 (sq : Nat), .int .u32 (st : Nat), .int .u32 (so_ : Nat), .slice s5 no c5, .bool xb, .int .u16 (pf : Nat), .slice s8 ne c8, .slice s9 np c9, .int .u8 (pd : Nat)] 28) := ⟨_, rfl⟩
      have B2 : BW wq w2 := by rw [hw2]; exact (BW.refl wq).alloc
      have X2 : HpB w2 wq.heap.size (.cells #[.bool mk, .int .u8 (ty : Nat), .int .u16 (sq : Nat), .int .u32 (st : Nat), .int .u32 (so_ : Nat), .slice s5 no c5, .bool xb, .int .u16 (pf : Nat), .slice s8 ne c8, .slice s9 np c9, .int .u8 (pd : Nat)] 28) := by rw [hw2]; exact HpB.new _ _
      have x2 : w2.cell? ⟨wq.heap.size, 2, none⟩ = some (.int .u16 (sq : Nat)) := hp_cell X2 2
      rw [← hw2]
      generalize wq.heap.size = xa at *
      clear hw2 z0 z1 z2 z3 z4 z5 z6 z7 z8 z9 z10 X2
      have BA : BW w2 (w2.alloc (.cells #[.int .u16 (sq : Nat)] 24)) := (BW.refl _).alloc
      have L3 := Lib.hid (Sls.new1 (E := I16) w2 24 [.int .u16 (sq : Nat)] rfl)
      have O3 := Lib.hid ((O.out.bw B2).bw BA)
      have B3 := Lib.hid ((B.out.trans B2).trans BA)
      have hz3 := B3.out.size
      replace B2 := Lib.hid B2
      replace BA := Lib.hid BA
      go_wp2_with (at_builtin; go_must (refine wpList_apEQ slU16 rfl _ _ rfl w.heap.size (.slice so k co) k (M.take k) rfl O3.out _ rfl 1 [sq] [.int .u16 (sq : Nat)] L3.out (EL.single rfl) rfl (by omega) hz3 (fun _ _ => trivial) ?_; intro s6 c6 w6 hc6 hm6 O6 T6 hb6 G6; unfold maxLen at hm6; replace O6 := Lib.hid O6; replace T6 := Lib.hid T6; clear G6 hb6))
      have B6 := Lib.hid (BW.stP B3.out T6.out (fun j hj => O3.out.ge' j (by simpa using hj)))
      have O7 : Hid (EQ I16 24 w6 w.heap.size (.slice s6 (k + 1) c6) (k + 1) (M.take (k + 1))) := Lib.hid (by rw [hmk2.out]; exact O6.out)
      clear O6 T6 O3 B3 L3 x2 d
      go_wp2_with fail
      go_roundg (n - (k + 1))
      case measure => omega
      case rel => exact ⟨k + 1, s6, c6, rfl, by omega, rfl, hm6, by push_cast; rfl, O7, B6⟩
    · obtain rfl : k = n := by omega
      have d : decide ((k : Int) < (k : Int)) = false := by simp
      go_wp2_with fail
      go_ret
      refine ⟨_, rfl, ?_, B.out⟩
      have h1 := O.out
      rw [List.take_of_length_le (by rw [hml.out, hdl.out]; exact Nat.le_refl _)] at h1
      exact h1
end Go.Proofs.Ytgiajnfmjpdodaa

namespace Go.Proofs.Ytgiajnfmjpdodaa
open Go.RowKit

/-- How far a number is ahead of another one. -/
def dst (f t : Nat) : Nat := (t + 65536 - f) % 65536
theorem wrap_dst {f t : Nat} (hf : f < 65536) (ht : t < 65536) : IntKind.u16.wrap ((t : Int) - (f : Int)) = (dst f t : Nat) := by
  unfold dst
  simp only [IntKind.wrap, IntKind.signed, IntKind.bits, IntKind.min, IntKind.max] <;> simp <;> omega
def farB (f t : Nat) : Bool := decide (16 ≤ dst f t)
theorem far_any (f t xb : Nat) (w : World) (hf : f < 65536) (ht : t < 65536) (hx : w.cell? ⟨xb, 0, none⟩ = some (.int .u16 (f : Nat))) :
    Calls Try.prog 95 #[.int .u16 (t : Nat), .pointer (some ⟨xb, 0, none⟩)] w fun e w' => e = .returned (.bool (farB f t)) ∧ w = w' := by
  have q := wrap_dst hf ht
  have hR : farB f t = decide ((16 : Int) ≤ (dst f t : Int)) := by unfold farB; exact decide_eq_decide.2 (by omega)
  generalize dst f t = d at *
  replace hR := Lib.hid hR
  go_enter Try.func95, Try.ntmps95
  go_wp2_with fail
  go_ret
  rw [hR.out]
  exact ⟨rfl, rfl⟩
set_option maxRecDepth 100000 in
set_option maxHeartbeats 8000000 in
theorem idxfar_any (base f xb : Nat) (v : Value) (n : Nat) (L : List Nat) (w : World) (h : EQ I16 24 w base v n L) (hn : n ≤ 1000000) (hL : ∀ x ∈ L, x < 65536) (hf : f < 65536) (hx : w.cell? ⟨xb, 0, none⟩ = some (.int .u16 (f : Nat))) :
    Calls Try.prog 106 #[v, .func (.func 95) #[] #[.pointer (some ⟨xb, 0, none⟩)]] w fun e w' => ∃ r : Int, e = .returned (.int .i64 r) ∧ decide (0 ≤ r) = L.any (farB f) ∧ w = w' := by
  obtain ⟨sa, cap, rfl, hnc, hcm⟩ := h.len
  unfold maxLen at hcm
  have hQ := Lib.hid h
  have hdl := Lib.hid h.1
  clear h
  replace hL := Lib.hid hL
  replace hx := Lib.hid hx
  go_enter Try.func106, Try.ntmps106
  go_upto_region 2 with (fail)
  go_loopg [8] n (fun m' i wx => ∃ k : Nat, m' = n - k ∧ k ≤ n ∧ i = .int .i64 (k : Nat) ∧ Hid (L.any (farB f) = (L.drop k).any (farB f)) ∧ w = wx)
  case atStart => exact ⟨0, by omega, by omega, rfl, Lib.hid (by rw [List.drop_zero]), rfl⟩
  case round =>
    obtain ⟨k, rfl, hk, rfl, hA, rfl⟩ := hrel
    by_cases hkn : k < n
    · have d : decide ((k : Int) < (n : Int)) = true := by simp; omega
      have hkL : k < L.length := by rw [hdl.out]; exact hkn
      obtain ⟨g, o, rfl, hc⟩ := i16_form hQ.out (by omega)
      have z := hc k hkL
      have hA2 := hA.out
      rw [List.drop_eq_getElem_cons hkL, List.any_cons] at hA2
      have ht := hL.out _ (List.getElem_mem hkL)
      clear hc
      generalize L[k] = t at *
      have cF := Lib.hid (far_any f t xb w hf ht hx.out)
      go_wp2_with fail
      refine Calls.mono cF.out ?_
      rintro e w2 ⟨rfl, rfl⟩
      clear cF
      dsimp only
      cases hb : farB f t with
      | true =>
        have hR : L.any (farB f) = true := by rw [hA2, hb]; rfl
        replace hR := Lib.hid hR
        replace hA2 := Lib.hid hA2
        replace hb := Lib.hid hb
        go_wp2_with fail
        go_ret
        exact ⟨(k : Int), rfl, by rw [hR.out]; simp, rfl⟩
      | false =>
        rw [hb, Bool.false_or] at hA2
        replace hA2 := Lib.hid hA2
        replace hb := Lib.hid hb
        clear z d
        go_wp2_with fail
        go_roundg (n - (k + 1))
        case measure => omega
        case rel => exact ⟨k + 1, rfl, by omega, by push_cast; rfl, hA2, rfl⟩
    · obtain rfl : k = n := by omega
      have d : decide ((k : Int) < (k : Int)) = false := by simp
      have hR : L.any (farB f) = false := by rw [hA.out, List.drop_of_length_le (by rw [hdl.out]; exact Nat.le_refl _)]; rfl
      replace hR := Lib.hid hR
      go_wp2_with fail
      go_ret
      exact ⟨-1, rfl, by rw [hR.out]; decide, rfl⟩
theorem hasfar_any (base f xb : Nat) (v : Value) (n : Nat) (L : List Nat) (w : World) (h : EQ I16 24 w base v n L) (hn : n ≤ 1000000) (hL : ∀ x ∈ L, x < 65536) (hf : f < 65536) (hx : w.cell? ⟨xb, 0, none⟩ = some (.int .u16 (f : Nat))) :
    Calls Try.prog 96 #[v, .func (.func 95) #[] #[.pointer (some ⟨xb, 0, none⟩)]] w fun e w' => e = .returned (.bool (L.any (farB f))) ∧ w = w' := by
  have c := Lib.hid (idxfar_any base f xb v n L w h hn hL hf hx)
  obtain ⟨sa, cap, rfl, hnc, hcm⟩ := h.len
  clear h hL hx
  generalize L.any (farB f) = b at *
  go_enter Try.func96, Try.ntmps96
  go_wp2_with fail
  refine Calls.mono c.out ?_
  rintro e w2 ⟨r, rfl, hr, rfl⟩
  dsimp only
  go_wp2_with fail
  go_ret
  exact ⟨rfl, rfl⟩
/-- The first of some numbers to which all of them are near ahead. -/
def baseN (L : List Nat) : Option Nat := L.find? fun f => !(L.any (farB f))
set_option maxRecDepth 100000 in
set_option maxHeartbeats 8000000 in
theorem base_any (base : Nat) (v : Value) (n : Nat) (L : List Nat) (w : World) (h : EQ I16 24 w base v n L) (hn : n ≤ 1000000) (hL : ∀ x ∈ L, x < 65536) :
    Calls Try.prog 73 #[v] w fun e w' => e = .returned (.tuple #[.int .u16 ((baseN L).getD 0 : Nat), .bool (baseN L).isSome]) ∧ BW w w' := by
  have hmf : ∀ (fn : Fn) (first cap : Array Value) (w : World), (Instr.makeFunc fn first cap).run Try.prog w = .ok (.func fn first cap) w := fun _ _ _ _ => rfl
  obtain ⟨sa, cap, rfl, hnc, hcm⟩ := h.len
  unfold maxLen at hcm
  have hQ := Lib.hid h
  have hdl := Lib.hid h.1
  clear h
  have hA : baseN L = (L.drop 0).find? fun f => !(L.any (farB f)) := by rw [List.drop_zero]; rfl
  generalize baseN L = R at *
  replace hL := Lib.hid hL
  replace hA := Lib.hid hA
  go_enter Try.func73, Try.ntmps73
  go_upto_region 2 with (fail)
  go_loopg [9] n (fun m' i wx => ∃ k : Nat, m' = n - k ∧ k ≤ n ∧ i = .int .i64 (k : Nat) ∧ Hid (R = (L.drop k).find? fun f => !(L.any (farB f))) ∧ Hid (BW w wx))
  case atStart => exact ⟨0, by omega, by omega, rfl, hA, BW.refl _⟩
  case round =>
    clear hA
    obtain ⟨k, rfl, hk, rfl, hA, B⟩ := hrel
    by_cases hkn : k < n
    · have d : decide ((k : Int) < (n : Int)) = true := by simp; omega
      have hkL : k < L.length := by rw [hdl.out]; exact hkn
      obtain ⟨g, o, rfl, hc⟩ := i16_form (hQ.out.bw B.out) (by omega)
      have z := hc k hkL
      have hA2 := hA.out
      rw [List.drop_eq_getElem_cons hkL, List.find?_cons] at hA2
      have ht := hL.out _ (List.getElem_mem hkL)
      clear hc
      generalize L[k] = t at *
      obtain ⟨wq, rfl⟩ : ∃ y, y = wr := ⟨_, rfl⟩
      replace hA2 := Lib.hid hA2
      go_upto_region 5 with (fail)
      obtain ⟨w2, hw2⟩ : ∃ w2, w2 = wq.alloc (.cells #[.int .u16 (t : Nat)] 24) := ⟨_, rfl⟩
      have B2 : BW wq w2 := by rw [hw2]; exact (BW.refl wq).alloc
      have x0 : w2.cell? ⟨wq.heap.size, 0, none⟩ = some (.int .u16 (t : Nat)) := by rw [hw2]; exact hp_cell (HpB.new _ _) 0
      rw [← hw2]
      have B3 := Lib.hid (B.out.trans B2)
      generalize wq.heap.size = xb at *
      clear hw2 z d B2 B
      have cC := Lib.hid (hasfar_any base t xb _ n L w2 (hQ.out.bw B3.out) hn hL.out ht x0)
      go_wp2_with fail
      refine Calls.mono cC.out ?_
      rintro e w3 ⟨rfl, rfl⟩
      clear cC
      dsimp only
      cases hb : L.any (farB t) with
      | false =>
        have hR : R = some t := by rw [hA2.out, hb]; rfl
        replace hR := Lib.hid hR
        replace hb := Lib.hid hb
        go_wp2_with fail
        go_ret2
        rw [hR.out]
        exact ⟨rfl, B3.out⟩
      | true =>
        have hA3 : R = (L.drop (k + 1)).find? fun f => !(L.any (farB f)) := by rw [hA2.out, hb]; rfl
        replace hA3 := Lib.hid hA3
        replace hb := Lib.hid hb
        clear x0
        go_wp2_with fail
        go_roundg (n - (k + 1))
        case measure => omega
        case rel => exact ⟨k + 1, rfl, by omega, by push_cast; rfl, hA3, B3⟩
    · obtain rfl : k = n := by omega
      have d : decide ((k : Int) < (k : Int)) = false := by simp
      have hR : R = none := by rw [hA.out, List.drop_of_length_le (by rw [hdl.out]; exact Nat.le_refl _)]; rfl
      replace hR := Lib.hid hR
      go_wp2_with fail
      go_ret2
      rw [hR.out]
      exact ⟨rfl, B.out⟩
end Go.Proofs.Ytgiajnfmjpdodaa

namespace Go.Proofs.Ytgiajnfmjpdodaa
open Go.RowKit

theorem ofInt_16 (a : Nat) (ha : a < 65536) : (BitVec.ofInt 16 (a : Int)).toNat = a := by
  rw [BitVec.toNat_ofInt]
  omega
theorem u16_and_nat (a b : Nat) (ha : a < 65536) (hb : b < 65536) : bits .and .u16 (a : Int) (b : Int) = ((a &&& b : Nat) : Int) := by
  have hx : a &&& b < 2 ^ 16 := Nat.and_lt_two_pow _ (by omega)
  show IntKind.u16.wrap ((BitVec.ofInt 16 (a : Int) &&& BitVec.ofInt 16 (b : Int)).toNat : Int) = _
  rw [BitVec.toNat_and, ofInt_16 a ha, ofInt_16 b hb]
  exact IntWalk.u16_in _ (by omega)
theorem u16_or_nat (a b : Nat) (ha : a < 65536) (hb : b < 65536) : bits .or .u16 (a : Int) (b : Int) = ((a ||| b : Nat) : Int) := by
  have hx : a ||| b < 2 ^ 16 := Nat.or_lt_two_pow (by omega) (by omega)
  show IntKind.u16.wrap ((BitVec.ofInt 16 (a : Int) ||| BitVec.ofInt 16 (b : Int)).toNat : Int) = _
  rw [BitVec.toNat_or, ofInt_16 a ha, ofInt_16 b hb]
  exact IntWalk.u16_in _ (by omega)
theorem pow16 {e : Nat} (he : e < 16) : 2 ^ e < 65536 := by
  have : 2 ^ e ≤ 2 ^ 15 := Nat.pow_le_pow_right (by omega) (by omega)
  omega
theorem or16 {m e : Nat} (hm : m < 65536) (he : e < 16) : m ||| 2 ^ e < 65536 := by
  have h := pow16 he
  exact Nat.or_lt_two_pow (n := 16) (by omega) (by omega)
theorem and_pow_bit (m e : Nat) : m &&& 2 ^ e = if m.testBit e = true then 2 ^ e else 0 := by
  apply Nat.eq_of_testBit_eq
  intro i
  rw [Nat.testBit_and, Nat.testBit_two_pow]
  by_cases h : e = i
  · subst h
    cases m.testBit e <;> simp
  · rw [decide_eq_false h, Bool.and_false]
    split
    · rw [Nat.testBit_two_pow, decide_eq_false h]
    · rw [Nat.zero_testBit]
def maskN (f : Nat) : List Nat → Nat → Option Nat
  | [], m => some m
  | t :: L, m => if m.testBit (dst f t) = true then none else maskN f L (m ||| 2 ^ dst f t)
set_option maxRecDepth 100000 in
set_option maxHeartbeats 8000000 in
theorem mask_any (base f : Nat) (v : Value) (n : Nat) (L : List Nat) (w : World) (h : EQ I16 24 w base v n L) (hn : n ≤ 1000000) (hL : ∀ x ∈ L, x < 65536) (hf : f < 65536) (hd : ∀ x ∈ L, dst f x < 16) :
    Calls Try.prog 75 #[.int .u16 (f : Nat), v] w fun e w' => e = .returned (.tuple #[.int .u16 ((maskN f L 0).getD 0 : Nat), .bool (maskN f L 0).isSome]) ∧ w = w' := by
  obtain ⟨sa, cap, rfl, hnc, hcm⟩ := h.len
  unfold maxLen at hcm
  have hQ := Lib.hid h
  have hdl := Lib.hid h.1
  clear h
  have hA : maskN f L 0 = maskN f (L.drop 0) 0 := by rw [List.drop_zero]
  generalize maskN f L 0 = R at *
  replace hL := Lib.hid hL
  replace hA := Lib.hid hA
  replace hd := Lib.hid hd
  go_enter Try.func75, Try.ntmps75
  go_upto_region 3 with (fail)
  go_loopg [6, 12] n (fun m' s i wx => ∃ k m : Nat, m' = n - k ∧ k ≤ n ∧ s = .int .u16 (m : Nat) ∧ m < 65536 ∧ i = .int .i64 (k : Nat) ∧ Hid (R = maskN f (L.drop k) m) ∧ w = wx)
  case atStart => exact ⟨0, 0, by omega, by omega, rfl, by omega, rfl, hA, rfl⟩
  case round =>
    clear hA
    obtain ⟨k, m, rfl, hk, rfl, hm, rfl, hA, rfl⟩ := hrel
    by_cases hkn : k < n
    · have d : decide ((k : Int) < (n : Int)) = true := by simp; omega
      have hkL : k < L.length := by rw [hdl.out]; exact hkn
      obtain ⟨g, o, rfl, hc⟩ := i16_form hQ.out (by omega)
      have z := hc k hkL
      have hA2 := hA.out
      rw [List.drop_eq_getElem_cons hkL] at hA2
      unfold maskN at hA2
      have ht := hL.out _ (List.getElem_mem hkL)
      have hdd := hd.out _ (List.getElem_mem hkL)
      clear hc
      generalize L[k] = t at *
      have q1 := wrap_dst hf ht
      generalize dst f t = e at *
      have hp := pow16 hdd
      have q2 : IntKind.u16.wrap ((2 : Int) ^ e) = ((2 ^ e : Nat) : Int) := by
        rw [show (2 : Int) ^ e = ((2 ^ e : Nat) : Int) by push_cast; rfl]
        generalize 2 ^ e = p at hp ⊢
        exact IntWalk.u16_in _ (by omega)
      have a1 := u16_and_nat m (2 ^ e) hm hp
      have a2 := u16_or_nat m (2 ^ e) hm hp
      have d2 : (((m &&& 2 ^ e : Nat) : Int) != 0) = m.testBit e := by
        rw [and_pow_bit]
        have hp1 := Nat.two_pow_pos e
        generalize 2 ^ e = p at hp hp1 ⊢
        cases m.testBit e with
        | true =>
          rw [if_pos rfl]
          exact bne_iff_ne.2 (by omega)
        | false => rfl
      have ho := or16 hm hdd
      have q3 : (0 : Int) ≤ (e : Int) := by omega
      generalize hpe : 2 ^ e = p at *
      generalize m &&& p = x at *
      generalize hor : m ||| p = y at *
      replace hpe := Lib.hid hpe
      replace hor := Lib.hid hor
      cases hb : m.testBit e with
      | true =>
        rw [hb] at d2
        rw [hb, if_pos rfl] at hA2
        replace hA2 := Lib.hid hA2
        replace hb := Lib.hid hb
        go_wp2_with fail
        go_ret2
        rw [hA2.out]
        exact ⟨rfl, rfl⟩
      | false =>
        rw [hb] at d2
        rw [hb, if_neg (by decide)] at hA2
        replace hA2 := Lib.hid hA2
        replace hb := Lib.hid hb
        go_wp2_with fail
        clear q1 q2 a1 a2 d2 z d
        go_roundg (n - (k + 1))
        case measure => omega
        case rel => exact ⟨k + 1, y, rfl, by omega, rfl, ho, by push_cast; rfl, hA2, rfl⟩
    · obtain rfl : k = n := by omega
      have d : decide ((k : Int) < (k : Int)) = false := by simp
      have hR : R = some m := by rw [hA.out, List.drop_of_length_le (by rw [hdl.out]; exact Nat.le_refl _)]; rfl
      replace hR := Lib.hid hR
      go_wp2_with fail
      go_ret2
      rw [hR.out]
      exact ⟨rfl, rfl⟩
end Go.Proofs.Ytgiajnfmjpdodaa

namespace Go.Proofs.Ytgiajnfmjpdodaa
open Go.RowKit

/-- A packet's bytes behind their length; none where it may not be. -/
def txN (d : RtpD) : List Nat := putB 2 ((writeN d).getD []).length ++ (writeN d).getD []
theorem write_le {d : RtpD} {b : List Nat} (h : writeN d = some b) : b.length ≤ 1200 := by
  unfold writeN at h
  split at h
  · next hh => cases h; exact hh.2
  · cases h
theorem get_le (d : RtpD) : ((writeN d).getD []).length ≤ 1200 := by
  cases h : writeN d with
  | none => exact Nat.zero_le _
  | some b => exact write_le h
theorem txN_le (d : RtpD) : (txN d).length ≤ 1202 := by
  have := get_le d
  unfold txN
  rw [List.length_append, putB_len]
  omega
theorem u64_len (n : Nat) (h : n ≤ 1200) : IntKind.u64.wrap ((n : Nat) : Int) = (n : Nat) := IntWalk.u64_in _ (by omega)
set_option maxRecDepth 100000 in
set_option maxHeartbeats 8000000 in
theorem text_any (c : Array Value) (d : RtpD) (w : World) (h : RtpV w c d) (wf : RtpWf d) (hpl : d.payload.length ≤ 1000000) :
    Calls Try.prog 76 #[.agg c] w fun e w' => ∃ v, e = .returned (.tuple #[v, .bool (writeN d).isSome]) ∧ OB w' w.heap.size 5 v (txN d).length (txN d) ∧ BW w w' := by
  have cW := fun wz h => Lib.hid (Write_any c d wz h wf hpl)
  obtain ⟨hle, hX⟩ : ((writeN d).getD []).length ≤ 1200 ∧ txN d = putB 2 ((writeN d).getD []).length ++ (writeN d).getD [] := ⟨get_le d, rfl⟩
  generalize txN d = X at *
  obtain ⟨so_, co, se, ce, sp, cp, rfl, N, E, D⟩ := h.open
  have hN := N.len
  have hE := E.len
  have hD := D.len
  obtain ⟨mk, ty, sq, st, so, ot, xb, pf, ex, pl, pd⟩ := d
  dsimp only at *
  obtain ⟨_, _, e1, n1, m1⟩ := hN
  obtain ⟨_, _, e2, n2, m2⟩ := hE
  obtain ⟨_, _, e3, n3, m3⟩ := hD
  simp only [Value.slice.injEq, true_and] at e1 e2 e3
  obtain ⟨rfl, rfl⟩ := e1
  obtain ⟨rfl, rfl⟩ := e2
  obtain ⟨rfl, rfl⟩ := e3
  unfold maxLen at m1 m2 m3
  have P1 := Lib.hid (PkV.made w (rtpC mk ty sq st so (.slice so_ ot.length co) xb pf (.slice se ex.length ce) (.slice sp pl.length cp) pd))
  have B1 : Hid (BW w (w.alloc (.cells (rtpC mk ty sq st so (.slice so_ ot.length co) xb pf (.slice se ex.length ce) (.slice sp pl.length cp) pd) 28))) := (BW.refl w).alloc
  have V1 := Lib.hid (h.bw B1.out)
  clear N E D h wf
  unfold WritePost at cW
  generalize hWd : writeN ⟨mk, ty, sq, st, so, ot, xb, pf, ex, pl, pd⟩ = Wd at *
  generalize hdd : (⟨mk, ty, sq, st, so, ot, xb, pf, ex, pl, pd⟩ : RtpD) = dd at *
  simp only [rtpC] at *
  generalize ot.length = no at *
  generalize ex.length = ne at *
  generalize pl.length = np at *
  replace hWd := Lib.hid hWd
  replace hdd := Lib.hid hdd
  replace hX := Lib.hid hX
  go_enter Try.func76, Try.ntmps76
  go_upto_region 1 with (fail)
  generalize w.alloc (.cells #[.bool mk, .int .u8 (ty : Nat), .int .u16 (sq : Nat), .int .u32 (st : Nat), .int .u32 (so : Nat), .slice so_ no co, .bool xb, .int .u16 (pf : Nat), .slice se ne ce, .slice sp np cp, .int .u8 (pd : Nat)] 28) = w1 at *
  have z0 := hp_cell (P1.out) 0
  have z1 := hp_cell (P1.out) 1
  have z2 := hp_cell (P1.out) 2
  have z3 := hp_cell (P1.out) 3
  have z4 := hp_cell (P1.out) 4
  have z5 := hp_cell (P1.out) 5
  have z6 := hp_cell (P1.out) 6
  have z7 := hp_cell (P1.out) 7
  have z8 := hp_cell (P1.out) 8
  have z9 := hp_cell (P1.out) 9
  have z10 := hp_cell (P1.out) 10
  simp only [List.getElem?_toArray, List.getElem?_cons_zero, List.getElem?_cons_succ] at z0 z1 z2 z3 z4 z5 z6 z7 z8 z9 z10
  go_wp2_with fail
  refine Calls.mono (cW w1 V1.out).out ?_
  rintro e w2 ⟨hr, hb⟩
  clear z0 z1 z2 z3 z4 z5 z6 z7 z8 z9 z10
  have B2 := Lib.hid (B1.out.trans hb)
  have hv : ∃ v k, e = .returned (.tuple #[v, .int .i64 k]) ∧ (k == (0 : Int)) = Wd.isSome ∧ SB w2 v (Wd.getD []).length (Wd.getD []) := by
    rcases hr with ⟨b, v, rfl, rfl, O⟩ | ⟨rfl, rfl⟩
    · exact ⟨v, 0, rfl, rfl, O.sb⟩
    · exact ⟨_, 1, rfl, rfl, (OB.nil w2 0 5).sb⟩
  obtain ⟨v, k, rfl, hk, S2⟩ := hv
  clear hr cW V1 P1 B1 hb
  generalize Wd.getD [] = b at *
  obtain ⟨sb, cb, rfl, hcb, hmb⟩ := S2.len
  unfold maxLen at hmb
  replace S2 := Lib.hid S2
  have q := u64_len _ hle
  dsimp only
  generalize hbl : b.length = nb at *
  replace hbl := Lib.hid hbl
  replace hk := Lib.hid hk
  have cP := Lib.hid (put_ok (.slice none 0 0) 0 [] 2 nb 2 (by omega) (by omega) rfl (by omega) (by omega) w2 (OB.nil w2 0 5).sb)
  go_wp2_with fail
  refine Calls.mono cP.out ?_
  rintro e w3 ⟨v3, rfl, O3, hb3⟩
  have B3 := Lib.hid (B2.out.call hb3)
  have S3 := Lib.hid (S2.out.below hb3 (Nat.le_refl _))
  clear S2 B2 cP
  rw [List.nil_append] at O3
  have M3 := Lib.hid (SM.two w3 v3 _ _ (.slice sb nb cb) _ _ O3.sb S3.out)
  have hfl : ([putB 2 nb, b] : List (List Nat)).flatten = X := by rw [hX.out]; simp
  obtain ⟨s3, c3, rfl, _, _⟩ := O3.len
  clear O3 S3
  dsimp only
  go_wp2_with fail
  have hsz : ([putB 2 nb, b] : List (List Nat)).flatten.length ≤ 1000000000 := by
    simp only [List.flatten_cons, List.flatten_nil, List.append_nil, List.length_append, putB_len]
    rw [hbl.out]; omega
  have cC := concat_ok _ 2 _ hsz _ M3.out
  rw [hfl] at cC
  refine Calls.mono cC ?_
  rintro e w4 ⟨v4, rfl, O4, hb4⟩
  have B4 := Lib.hid ((B3.out.trans (BW.refl w3).alloc).call hb4)
  have O5 := Lib.hid (O4.up (Nat.le_trans B3.out.size (BW.refl w3).alloc.size))
  obtain ⟨s4, c4, rfl, _, _⟩ := O5.out.len
  clear cC hsz hfl M3 O4 hb4 B3
  generalize hXl : X.length = nX at *
  replace hXl := Lib.hid hXl
  dsimp only
  go_wp2_with fail
  go_ret2
  rw [← hk.out]
  rw [hXl.out]
  exact ⟨_, rfl, O5.out, B4.out⟩
end Go.Proofs.Ytgiajnfmjpdodaa

namespace Go.Proofs.Ytgiajnfmjpdodaa
open Go.RowKit

/-- A row turned by another one, as far as k. -/
def xz (a b : List Nat) (k : Nat) : List Nat := (List.range a.length).map fun i => if i < k then a.getD i 0 ^^^ b.getD i 0 else a.getD i 0
theorem xz_len (a b : List Nat) (k : Nat) : (xz a b k).length = a.length := by simp [xz]
theorem xz_0 (a b : List Nat) : xz a b 0 = a := by
  apply List.ext_getElem (xz_len _ _ _)
  intro i h1 h2
  simp [xz, List.getD_eq_getElem?_getD, List.getElem?_eq_getElem h2]
theorem xz_getD (a b : List Nat) (k : Nat) (h : k < a.length) : (xz a b k).getD k 0 = a.getD k 0 := by
  rw [List.getD_eq_getElem?_getD, List.getElem?_eq_getElem (by rw [xz_len]; exact h)]
  simp [xz]
theorem xz_set (a b : List Nat) (k : Nat) (h : k < a.length) : (xz a b k).set k (a.getD k 0 ^^^ b.getD k 0) = xz a b (k + 1) := by
  apply List.ext_getElem (by rw [List.length_set, xz_len, xz_len])
  intro i h1 h2
  rw [List.getElem_set]
  by_cases e : k = i
  · subst e
    simp [xz]
  · rw [if_neg e]
    simp only [xz, List.getElem_map, List.getElem_range]
    by_cases q : i < k
    · rw [if_pos q, if_pos (by omega)]
    · rw [if_neg q, if_neg (by omega)]
/-- One row turned by another, as long as the longer one. -/
def xo (a b : List Nat) : List Nat := xz (a ++ List.replicate (b.length - a.length) 0) b b.length
def xorR (rows : List (List Nat)) : List Nat := rows.foldl xo []
theorem xo_len (a b : List Nat) : (xo a b).length = max a.length b.length := by
  unfold xo
  rw [xz_len, List.length_append, List.length_replicate]
  omega
theorem xorR_step (rows : List (List Nat)) (k : Nat) (h : k < rows.length) : xorR (rows.take (k + 1)) = xo (xorR (rows.take k)) (rows.getD k []) := by
  unfold xorR
  rw [List.take_succ_eq_append_getElem h, List.foldl_append, List.getD_eq_getElem?_getD, List.getElem?_eq_getElem h]
  rfl
theorem xo_get (a b : List Nat) (i : Nat) : (xo a b).getD i 0 = a.getD i 0 ^^^ b.getD i 0 := by
  by_cases h : i < max a.length b.length
  · rw [List.getD_eq_getElem?_getD, List.getElem?_eq_getElem (by rw [xo_len]; exact h)]
    simp only [xo, xz, List.getElem_map, List.getElem_range, Option.getD_some]
    have e : (a ++ List.replicate (b.length - a.length) 0).getD i 0 = a.getD i 0 := by
      simp only [List.getD_eq_getElem?_getD]
      by_cases q : i < a.length
      · rw [List.getElem?_append_left q]
      · rw [List.getElem?_append_right (by omega), List.getElem?_eq_none (l := a) (by omega), List.getElem?_replicate]
        split <;> rfl
    rw [e]
    by_cases q : i < b.length
    · rw [if_pos q]
    · rw [if_neg q, List.getD_eq_getElem?_getD (l := b), List.getElem?_eq_none (l := b) (by omega)]
      simp
  · rw [List.getD_eq_getElem?_getD, List.getElem?_eq_none (by rw [xo_len]; omega), List.getD_eq_getElem?_getD, List.getElem?_eq_none (by omega), List.getD_eq_getElem?_getD, List.getElem?_eq_none (by omega)]
    rfl
theorem row_le {rows : List (List Nat)} (hs : ∀ r ∈ rows, r.length ≤ 1000000) (k : Nat) : (rows.getD k []).length ≤ 1000000 := by
  by_cases h : k < rows.length
  · rw [List.getD_eq_getElem?_getD, List.getElem?_eq_getElem h]
    exact hs _ (List.getElem_mem h)
  · rw [List.getD_eq_getElem?_getD, List.getElem?_eq_none (by omega)]
    exact Nat.zero_le _
set_option maxRecDepth 100000 in
set_option maxHeartbeats 8000000 in
theorem xor_any (v : Value) (n : Nat) (rows : List (List Nat)) (w : World) (h : SM w v n rows) (hs : ∀ r ∈ rows, r.length ≤ 1000000) (hn : n ≤ 1000000) :
    Calls Try.prog 78 #[v] w fun e w' => ∃ u, e = .returned u ∧ OB w' w.heap.size 5 u (xorR rows).length (xorR rows) ∧ Below w.heap.size w w' := by
  obtain ⟨sv, cv, rfl, hcv, hmv⟩ := h.len
  unfold maxLen at hmv
  have hH := Lib.hid h
  have hrl := Lib.hid h.1
  clear h
  have hstep := Lib.hid (xorR_step rows)
  have hrow := Lib.hid (row_le hs)
  clear hs
  go_enter Try.func78, Try.ntmps78
  go_upto_region 3 with (fail)
  go_loopg [3, 11] n (fun m' s i wx => ∃ (j : Nat) (so : Option Addr) (L c : Nat), m' = n - j ∧ j ≤ n ∧ s = .slice so L c ∧ L ≤ 1000000 ∧ c ≤ 9223372036854775807 ∧ i = .int .i64 (j : Nat) ∧ Hid (OB wx w.heap.size 5 (.slice so L c) L (xorR (rows.take j))) ∧ Hid (Below w.heap.size w wx))
  case atStart => exact ⟨0, none, 0, 0, by omega, by omega, rfl, by omega, by omega, rfl, OB.nil _ _ _, Below.refl _ _⟩
  case round =>
    obtain ⟨j, so, L, c, rfl, hj, rfl, hL, hcm, rfl, O, B⟩ := hrel
    by_cases hjn : j < n
    · have d : decide ((j : Int) < (n : Int)) = true := by simp; omega
      obtain ⟨b, o, cap, he, _, _, hbw, hcell⟩ := hH.out.form (by omega)
      cases he
      obtain ⟨s, ln, cl, hc, hSB⟩ := hcell j hjn
      have hc1 := B.out.cell (p := ⟨b, o + j, none⟩) hbw
      rw [hc] at hc1
      have S1 := Lib.hid (hSB.below B.out (Nat.le_refl _))
      have hst := hstep.out j (by rw [hrl.out]; exact hjn)
      have hlr := hrow.out j
      rw [hSB.1] at hlr
      clear hcell hc
      generalize rows.getD j [] = r at *
      replace hst := Lib.hid hst
      obtain ⟨wq, rfl⟩ : ∃ y, y = wr := ⟨_, rfl⟩
      have hz0 := B.out.size
      by_cases hm : L < ln
      · have d2 : decide ((0 : Int) < (ln : Int) - (L : Int)) = true := by simp; omega
        have hsb : ((ln : Int) - (L : Int)) = ((ln - L : Nat) : Int) := by omega
        have hs2 : L + (ln - L) = ln := by omega
        have hal : (xorR (rows.take j)).length = L := O.out.1
        have hxo : xorR (rows.take (j + 1)) = xz (xorR (rows.take j) ++ List.replicate (ln - L) 0) r ln := by
          rw [hst.out]; unfold xo; rw [hal, S1.out.1]
        generalize ln - L = dd at *
        have hlm2 : L + dd ≤ 1000000 := by omega
        replace hxo := Lib.hid hxo
        replace hs2 := Lib.hid hs2
        clear hst hal
        go_upto_region 8 with (at_builtin; go_must (refine wpList_apOBz rfl _ _ rfl w.heap.size _ L _ rfl O.out dd (by first | rfl | exact congrArg _ hsb) (by omega) hz0 ?_; intro s5 c5 w5 hc5 hm5 O5 T5 B5 G5; replace O5 := Lib.hid O5; replace B5 := Lib.hid (B.out.trans B5); clear T5 G5))
        have hlm : ln ≤ L + dd := by have := hs2.out; omega
        generalize xorR (rows.take j) ++ List.replicate dd 0 = A at *
        generalize hR1 : xorR (rows.take (j + 1)) = R at *
        replace hR1 := Lib.hid hR1
        clear O B S1 d2 hsb hs2
        unfold maxLen at hm5
        generalize L + dd = m at *
        have hAl := Lib.hid O5.out.1
        have hAb := Lib.hid O5.out.sb.2.1
        have hrb := Lib.hid hSB.2.1
        have H0 := Lib.hid hSB
        clear hSB
        go_upto_region 9 with (fail)
        go_loopg [27] ln (fun m' i wx => ∃ k : Nat, m' = ln - k ∧ k ≤ ln ∧ i = .int .i64 (k : Nat) ∧ Hid (OB wx w.heap.size 5 (.slice s5 m c5) m (xz A r k)) ∧ Hid (Below w.heap.size w wx))
        case atStart => exact ⟨0, by omega, by omega, rfl, by rw [xz_0]; exact O5, B5⟩
        case round =>
          clear O5 B5
          obtain ⟨k, rfl, hk, rfl, O6, B6⟩ := hrel
          by_cases hkn : k < ln
          · have d3 : decide ((k : Int) < (ln : Int)) = true := by simp; omega
            obtain ⟨g, o1, cap1, he, hbg, hlt, _, _, hcell, hfz⟩ := O6.out.form (by omega)
            cases he
            obtain ⟨gs, os, cs, he, _, _, _, hcs⟩ := (H0.out.below B6.out (Nat.le_refl _)).form (by omega)
            cases he
            have hcz := hcs k hkn
            have hcx := hcell k (by omega)
            rw [xz_getD A r k (by rw [hAl.out]; omega)] at hcx
            have hx := xz_set A r k (by rw [hAl.out]; omega)
            have hfx := hfz (o1 + k)
            have hy := ByL.get hAb.out k
            have hz := ByL.get hrb.out k
            generalize A.getD k 0 = y at *
            generalize r.getD k 0 = z at *
            have hxr := u8_xor_nat y z hy hz
            have hyx : y ^^^ z < 256 := Nat.xor_lt_two_pow (n := 8) hy hz
            have O7 := Lib.hid (O6.out.set k (by omega) (y ^^^ z) hyx)
            rw [hx] at O7
            have B7 := Lib.hid (Below.set3 B6.out (b := g) (o := o1 + k) hbg (.int .u8 (y ^^^ z : Nat)))
            clear hcell hfz O6 B6 hx hcs
            go_wp2_with fail
            go_roundg (ln - (k + 1))
            case measure => omega
            case rel => exact ⟨k + 1, by omega, by omega, by go_num, O7, B7⟩
          · obtain rfl : k = ln := by omega
            have d3 : decide ((k : Int) < (k : Int)) = false := by simp
            rw [← hxo.out] at O6
            go_wp2_with fail
            go_roundg (n - (j + 1))
            case measure => omega
            case rel => exact ⟨j + 1, s5, m, c5, by omega, by omega, rfl, by omega, by omega, by go_num, by rw [hR1.out]; exact O6, B6⟩
      · have d2 : decide ((0 : Int) < (ln : Int) - (L : Int)) = false := by simp; omega
        have hal : (xorR (rows.take j)).length = L := O.out.1
        have hxo : xorR (rows.take (j + 1)) = xz (xorR (rows.take j)) r ln := by
          rw [hst.out]; unfold xo; rw [hal, S1.out.1, show ln - L = 0 by omega]; simp
        obtain ⟨_, _, he, hc5, hm5⟩ := O.out.len
        cases he
        unfold maxLen at hm5
        have hlm : ln ≤ L := by omega
        have hlm2 : L ≤ 1000000 := hL
        replace hxo := Lib.hid hxo
        clear hst hal
        go_upto_region 8 with (fail)
        generalize xorR (rows.take j) = A at *
        generalize hR1 : xorR (rows.take (j + 1)) = R at *
        replace hR1 := Lib.hid hR1
        have O5 := O
        have B5 := B
        clear O B S1 d2
        generalize so = s5 at *
        generalize c = c5 at *
        generalize L = m at *
        generalize wq = w5 at *
        have hAl := Lib.hid O5.out.1
        have hAb := Lib.hid O5.out.sb.2.1
        have hrb := Lib.hid hSB.2.1
        have H0 := Lib.hid hSB
        clear hSB
        go_upto_region 9 with (fail)
        go_loopg [27] ln (fun m' i wx => ∃ k : Nat, m' = ln - k ∧ k ≤ ln ∧ i = .int .i64 (k : Nat) ∧ Hid (OB wx w.heap.size 5 (.slice s5 m c5) m (xz A r k)) ∧ Hid (Below w.heap.size w wx))
        case atStart => exact ⟨0, by omega, by omega, rfl, by rw [xz_0]; exact O5, B5⟩
        case round =>
          clear O5 B5
          obtain ⟨k, rfl, hk, rfl, O6, B6⟩ := hrel
          by_cases hkn : k < ln
          · have d3 : decide ((k : Int) < (ln : Int)) = true := by simp; omega
            obtain ⟨g, o1, cap1, he, hbg, hlt, _, _, hcell, hfz⟩ := O6.out.form (by omega)
            cases he
            obtain ⟨gs, os, cs, he, _, _, _, hcs⟩ := (H0.out.below B6.out (Nat.le_refl _)).form (by omega)
            cases he
            have hcz := hcs k hkn
            have hcx := hcell k (by omega)
            rw [xz_getD A r k (by rw [hAl.out]; omega)] at hcx
            have hx := xz_set A r k (by rw [hAl.out]; omega)
            have hfx := hfz (o1 + k)
            have hy := ByL.get hAb.out k
            have hz := ByL.get hrb.out k
            generalize A.getD k 0 = y at *
            generalize r.getD k 0 = z at *
            have hxr := u8_xor_nat y z hy hz
            have hyx : y ^^^ z < 256 := Nat.xor_lt_two_pow (n := 8) hy hz
            have O7 := Lib.hid (O6.out.set k (by omega) (y ^^^ z) hyx)
            rw [hx] at O7
            have B7 := Lib.hid (Below.set3 B6.out (b := g) (o := o1 + k) hbg (.int .u8 (y ^^^ z : Nat)))
            clear hcell hfz O6 B6 hx hcs
            go_wp2_with fail
            go_roundg (ln - (k + 1))
            case measure => omega
            case rel => exact ⟨k + 1, by omega, by omega, by go_num, O7, B7⟩
          · obtain rfl : k = ln := by omega
            have d3 : decide ((k : Int) < (k : Int)) = false := by simp
            rw [← hxo.out] at O6
            go_wp2_with fail
            go_roundg (n - (j + 1))
            case measure => omega
            case rel => exact ⟨j + 1, s5, m, c5, by omega, by omega, rfl, by omega, by omega, by go_num, by rw [hR1.out]; exact O6, B6⟩
    · obtain rfl : j = n := by omega
      have d : decide ((j : Int) < (j : Int)) = false := by simp
      have hR : rows.take j = rows := List.take_of_length_le (by rw [hrl.out]; exact Nat.le_refl _)
      rw [hR] at O
      have hq := O.out.1
      go_wp2_with fail
      go_ret
      rw [hq]
      exact ⟨_, rfl, O.out, B.out⟩
end Go.Proofs.Ytgiajnfmjpdodaa

namespace Go.Proofs.Ytgiajnfmjpdodaa
open Go.RowKit

/-- Bytes of the call's own. -/
def BR : Elt (List Nat) where
  size := 1
  R := fun w base a c => ∃ v, c = [v] ∧ OB w base 5 v a.length a
  Ok := NoB
  pos := by decide
  len := fun ⟨v, e, _⟩ => by rw [e]; rfl
  one := fun ⟨v, e, hv⟩ u hu => by
    rw [e] at hu
    obtain ⟨s, c, rfl, _, _⟩ := hv.len
    simp at hu
    rcases hu with rfl
    rfl
  bw := fun ⟨v, e, hv⟩ hb => ⟨v, e, hv.bw hb⟩
  up := fun ⟨v, e, hv⟩ hb => ⟨v, e, hv.up hb⟩
  still := fun ⟨v, e, hv⟩ hs hS => ⟨v, e, hv.still hs (NoB.ob hv hS)⟩
  old := fun ⟨v, e, hv⟩ hs hS => ⟨v, e, hv.still hs (fun k hk hm => by have := hv.ge' k hk; have := hS k hm; omega)⟩
theorem EL_rows {w : World} {base : Nat} : ∀ {l : List (List Nat)} {xs : List Value}, EL BR w base l xs → ∀ i x, xs[i]? = some x → ∃ ln, SB w x ln (l.getD i [])
  | [], _, h, i, x, hx => by rw [show _ = [] from h] at hx; simp at hx
  | a :: l, _, ⟨c, xs', e, ⟨v, hc, hv⟩, h2⟩, i, x, hx => by
    rw [e, hc] at hx
    cases i with
    | zero =>
      simp at hx
      subst hx
      exact ⟨_, hv.sb⟩
    | succ i =>
      simp at hx
      have := EL_rows h2 i x hx
      simpa using this
theorem EQ.sm {w : World} {base : Nat} {v : Value} {n : Nat} {l : List (List Nat)} (h : EQ BR 22 w base v n l) : SM w v n l := by
  obtain ⟨h0, xs, h1, h2⟩ := h
  exact ⟨h0, xs, h1.sls, EL_rows h2⟩
end Go.Proofs.Ytgiajnfmjpdodaa
