/- Covers of packets: their numbers; whether all are near. No condition but the sizes'. -/
import Derived.Test.YtgiajnfmjpdodaaFeA
namespace Go.Proofs.Ytgiajnfmjpdodaa
open Go.RowKit

/-- Numbers of 16 bits. -/
def I16 : Elt Nat where
  size := 1
  R := fun _ _ a c => c = [.int .u16 (a : Nat)]
  Ok := fun _ _ => True
  pos := by decide
  len := fun e => by rw [e]; rfl
  one := fun e u hu => by rw [e] at hu; simp at hu; rw [hu]; rfl
  bw := fun e _ => e
  up := fun e _ => e
  still := fun e _ _ => e
  old := fun e _ _ => e
theorem slU16 : SlTy Try.prog 114 24 1 2 := SlTy.mk' Try.underlying114 (by kernel_rfl) (by decide)
theorem i16_form {T : TypeId} {w : World} {base : Nat} {sv : Option Addr} {n cap : Nat} {L : List Nat} (h : EQ I16 T w base (.slice sv n cap) n L) (h0 : 0 < n) :
    ∃ g o, sv = some ⟨g, o, none⟩ ∧ ∀ i (hi : i < L.length), w.cell? ⟨g, o + i, none⟩ = some (.int .u16 (L[i] : Nat)) := by
  obtain ⟨g, o, cap', hsl, _, _, _, _, hce⟩ := h.form h0
  simp only [Value.slice.injEq] at hsl
  refine ⟨g, o, hsl.1, fun i hi => ?_⟩
  obtain ⟨c, hc, hcc⟩ := hce i hi
  have hc' : c = [.int .u16 (L[i] : Nat)] := hc
  have z0 := hcc 0 (by decide)
  have e2 : I16.size = 1 := rfl
  rw [hc', e2, Nat.mul_one] at z0
  exact z0
def seqsN (D : List RtpD) : List Nat := D.map RtpD.seq
set_option maxRecDepth 100000 in
set_option maxHeartbeats 8000000 in
theorem seqs_any (v : Value) (n : Nat) (D : List RtpD) (w : World) (h : RL w v n D) (hn : n ≤ 1000000) :
    Calls Try.prog 74 #[v] w fun e w' => ∃ u, e = .returned u ∧ EQ I16 24 w' w.heap.size u n (seqsN D) ∧ BW w w' := by
  obtain ⟨sa, cap, rfl, hnc, hcm⟩ := h.sl
  unfold maxLen at hcm
  have hH := Lib.hid h
  have hdl := Lib.hid h.dl
  clear h
  have hmk : ∀ k (hk : k < D.length), (seqsN D).take (k + 1) = (seqsN D).take k ++ [(D[k]).seq] := fun k hk => by
    unfold seqsN
    rw [List.take_succ_eq_append_getElem (by simpa using hk), List.getElem_map]
  have hml : (seqsN D).length = D.length := by simp [seqsN]
  generalize seqsN D = M at *
  replace hmk := Lib.hid hmk
  replace hml := Lib.hid hml
  go_enter Try.func74, Try.ntmps74
  go_upto_region 3 with (fail)
  go_loopg [3, 8] n (fun m' s i wx => ∃ (k : Nat) (so : Option Addr) (co : Nat), m' = n - k ∧ k ≤ n ∧ s = .slice so k co ∧ co ≤ 9223372036854775807 ∧ i = .int .i64 (k : Nat) ∧ Hid (EQ I16 24 wx w.heap.size (.slice so k co) k (M.take k)) ∧ Hid (BW w wx))
  case atStart => exact ⟨0, none, 0, by omega, by omega, rfl, by omega, rfl, EQ.nil _ _ _ _, BW.refl _⟩
  case round =>
    obtain ⟨k, so, co, rfl, hk, rfl, hco, rfl, O, B⟩ := hrel
    by_cases hkn : k < n
    · have d : decide ((k : Int) < (n : Int)) = true := by simp; omega
      obtain ⟨b, o, rfl, hc⟩ := (hH.out.bw B.out).form (by omega)
      have hkD : k < D.length := by rw [hdl.out]; exact hkn
      obtain ⟨s5, c5, s8, c8, s9, c9, -, n1, m1, n2, m2, n3, m3, hcc⟩ := hc k hkD
      have z0 := hcc 0 (by decide)
      have z1 := hcc 1 (by decide)
      have z2 := hcc 2 (by decide)
      have z3 := hcc 3 (by decide)
      have z4 := hcc 4 (by decide)
      have z5 := hcc 5 (by decide)
      have z6 := hcc 6 (by decide)
      have z7 := hcc 7 (by decide)
      have z8 := hcc 8 (by decide)
      have z9 := hcc 9 (by decide)
      have z10 := hcc 10 (by decide)
      simp only [rtpC, List.getElem?_toArray, List.getElem?_cons_zero, List.getElem?_cons_succ, Nat.add_zero] at z0 z1 z2 z3 z4 z5 z6 z7 z8 z9 z10
      have hmk2 := hmk.out k hkD
      clear hcc hc
      generalize (D[k]).seq = sq at *
      generalize (D[k]).marker = mk at *
      generalize (D[k]).typ = ty at *
      generalize (D[k]).stamp = st at *
      generalize (D[k]).source = so_ at *
      generalize (D[k]).others.length = no at *
      generalize (D[k]).ext = xb at *
      generalize (D[k]).profile = pf at *
      generalize (D[k]).extra.length = ne at *
      generalize (D[k]).payload.length = np at *
      generalize (D[k]).pad = pd at *
      replace hmk2 := Lib.hid hmk2
      obtain ⟨wq, rfl⟩ : ∃ y, y = wr := ⟨_, rfl⟩
      go_upto_region 5 with (fail)
      obtain ⟨w2, hw2⟩ : ∃ w2, w2 = wq.alloc (.cells #[.bool mk, .int .u8 (ty : Nat), .int .u16 (sq : Nat), .int .u32 (st : Nat), .int .u32 (so_ : Nat), .slice s5 no c5, .bool xb, .int .u16 (pf : Nat), .slice s8 ne c8, .slice s9 np c9, .int .u8 (pd : Nat)] 28) := ⟨_, rfl⟩
      have B2 : BW wq w2 := by rw [hw2]; exact (BW.refl wq).alloc
      have X2 : HpB w2 wq.heap.size (.cells #[.bool mk, .int .u8 (ty : Nat), .int .u16 (sq : Nat), .int .u32 (st : Nat), .int .u32 (so_ : Nat), .slice s5 no c5, .bool xb, .int .u16 (pf : Nat), .slice s8 ne c8, .slice s9 np c9, .int .u8 (pd : Nat)] 28) := by rw [hw2]; exact HpB.new _ _
      have x2 : w2.cell? ⟨wq.heap.size, 2, none⟩ = some (.int .u16 (sq : Nat)) := hp_cell X2 2
      rw [← hw2]
      generalize wq.heap.size = xa at *
      clear hw2 z0 z1 z2 z3 z4 z5 z6 z7 z8 z9 z10 X2
      have BA : BW w2 (w2.alloc (.cells #[.int .u16 (sq : Nat)] 24)) := (BW.refl _).alloc
      have L3 := Lib.hid (Sls.new1 (E := I16) w2 24 [.int .u16 (sq : Nat)] rfl)
      have O3 := Lib.hid ((O.out.bw B2).bw BA)
      have B3 := Lib.hid ((B.out.trans B2).trans BA)
      have hz3 := B3.out.size
      replace B2 := Lib.hid B2
      replace BA := Lib.hid BA
      go_wp2_with (at_builtin; go_must (refine wpList_apEQ slU16 rfl _ _ rfl w.heap.size (.slice so k co) k (M.take k) rfl O3.out _ rfl 1 [sq] [.int .u16 (sq : Nat)] L3.out (EL.single rfl) rfl (by omega) hz3 (fun _ _ => trivial) ?_; intro s6 c6 w6 hc6 hm6 O6 T6 hb6 G6; unfold maxLen at hm6; replace O6 := Lib.hid O6; replace T6 := Lib.hid T6; clear G6 hb6))
      have B6 := Lib.hid (BW.stP B3.out T6.out (fun j hj => O3.out.ge' j (by simpa using hj)))
      have O7 : Hid (EQ I16 24 w6 w.heap.size (.slice s6 (k + 1) c6) (k + 1) (M.take (k + 1))) := Lib.hid (by rw [hmk2.out]; exact O6.out)
      clear O6 T6 O3 B3 L3 x2 d
      go_wp2_with fail
      go_roundg (n - (k + 1))
      case measure => omega
      case rel => exact ⟨k + 1, s6, c6, rfl, by omega, rfl, hm6, by push_cast; rfl, O7, B6⟩
    · obtain rfl : k = n := by omega
      have d : decide ((k : Int) < (k : Int)) = false := by simp
      go_wp2_with fail
      go_ret
      refine ⟨_, rfl, ?_, B.out⟩
      have h1 := O.out
      rw [List.take_of_length_le (by rw [hml.out, hdl.out]; exact Nat.le_refl _)] at h1
      exact h1
end Go.Proofs.Ytgiajnfmjpdodaa
