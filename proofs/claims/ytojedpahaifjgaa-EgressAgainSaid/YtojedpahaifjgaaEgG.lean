/- An egress of plain media: what losses tell, indices. No condition but the numbers' bounds. -/
import Derived.Test.YtojedpahaifjgaaEgF
namespace Go.Proofs.Ytojedpahaifjgaa
open Go.RowKit

/-- Numbers of 16 bits. -/
def U1 : Elt Int where
  size := 1
  R := fun _ _ a c => c = [.int .u16 a]
  Ok := fun _ _ => True
  pos := by decide
  len := fun e => by rw [e]; rfl
  one := fun e u hu => by rw [e] at hu; simp at hu; rw [hu]; rfl
  bw := fun e _ => e
  up := fun e _ => e
  still := fun e _ _ => e
  old := fun e _ _ => e
theorem slU16 : SlTy Try.prog 120 32 1 2 := SlTy.mk' Try.underlying120 (by kernel_rfl) (by decide)
theorem u1_form {T : TypeId} {w : World} {base : Nat} {sv : Option Addr} {n cap : Nat} {L : List Int} (h : EQ U1 T w base (.slice sv n cap) n L) (h0 : 0 < n) :
    ∃ g o, sv = some ⟨g, o, none⟩ ∧ ∀ i (hi : i < L.length), w.cell? ⟨g, o + i, none⟩ = some (.int .u16 L[i]) := by
  obtain ⟨g, o, cap', hsl, _, _, _, _, hce⟩ := h.form h0
  simp only [Value.slice.injEq] at hsl
  refine ⟨g, o, hsl.1, fun i hi => ?_⟩
  obtain ⟨c, hc, hcc⟩ := hce i hi
  have hc' : c = [.int .u16 L[i]] := hc
  have z0 := hcc 0 (by decide)
  have e2 : U1.size = 1 := rfl
  rw [hc', e2, Nat.mul_one] at z0
  exact z0
set_option maxRecDepth 100000 in
set_option maxHeartbeats 8000000 in
theorem idx_any (h s : Int) (hh : h ≤ 1152921504606846976) (w : World) :
    Calls Try.prog 47 #[.int .i64 h, .int .u16 s] w fun e w' => ∃ r, e = .returned (.int .i64 r) ∧ w' = w := by
  by_cases h0 : h < 0
  · have d : decide (h < 0) = true := by simpa using h0
    go_enter Try.func47, Try.ntmps47
    go_wp2_with fail
    go_ret
    first | exact ⟨_, rfl, rfl⟩ | exact ⟨⟨_, rfl⟩, rfl⟩
  have d : decide (h < 0) = false := by simpa using h0
  have c := Lib.hid (seq_any h w)
  generalize IntKind.u16.wrap h = sh at *
  have hoB : 0 ≤ wrap64 (IntKind.u16.wrap (s - sh)) ∧ wrap64 (IntKind.u16.wrap (s - sh)) ≤ 65535 := by
    have e1 : IntKind.u16.wrap (s - sh) = (s - sh) % 65536 := by simp [IntKind.wrap, IntKind.bits, IntKind.signed]
    rw [e1, IntWalk.wrap64_in _ (by omega)]
    omega
  replace hoB := Lib.hid hoB
  go_enter Try.func47, Try.ntmps47
  go_wp2_with fail
  refine c.out.mono ?_
  rintro e w1 ⟨rfl, rfl⟩
  dsimp only
  go_upto_region 4 with (fail)
  generalize wrap64 (IntKind.u16.wrap (s - sh)) = off at *
  have hob := hoB.out
  generalize IntKind.u16.wrap (s - sh) = q1 at *
  clear hoB
  by_cases c1 : 32768 < off
  · have d1 : decide (32768 < off) = true := by simpa using c1
    have e1 : wrap64 (off - 65536) = off - 65536 := IntWalk.wrap64_in _ (by omega)
    by_cases c2 : h + (off - 65536) < 0
    · have d2 : decide (h + (off - 65536) < 0) = true := by simpa using c2
      go_wp2_with fail
      go_ret
      first | exact ⟨_, rfl, rfl⟩ | exact ⟨⟨_, rfl⟩, rfl⟩
    · have d2 : decide (h + (off - 65536) < 0) = false := by simpa using c2
      go_wp2_with fail
      go_ret
      first | exact ⟨_, rfl, rfl⟩ | exact ⟨⟨_, rfl⟩, rfl⟩
  · have d1 : decide (32768 < off) = false := by simpa using c1
    have d2 : decide (h + off < 0) = false := by simp; omega
    go_wp2_with fail
    go_ret
    first | exact ⟨_, rfl, rfl⟩ | exact ⟨⟨_, rfl⟩, rfl⟩
set_option maxRecDepth 100000 in
set_option maxHeartbeats 8000000 in
theorem nacked_any (base gl : Nat) (s b : Int) (w : World) (hb0 : base ≤ w.heap.size) (hl : HpB w gl (.cells #[.int .u16 s, .int .u16 b] 75)) :
    Calls Try.prog 45 #[.slice (some ⟨gl, 0, none⟩) 1 1] w fun e w' => ∃ so n co L, e = .returned (.slice so n co) ∧ n ≤ 17 ∧ EQ U1 32 w' w.heap.size (.slice so n co) n L ∧ BW w w' := by
  have hL := Lib.hid hl
  clear hl
  go_enter Try.func45, Try.ntmps45
  go_upto_region 3 with (fail)
  go_loopg [3, 9] 1 (fun m' out i wx => ∃ (k n : Nat) (so : Option Addr) (co : Nat) (L : List Int), m' = 1 - k ∧ k ≤ 1 ∧ i = .int .i64 (k : Nat) ∧ out = .slice so n co ∧ co ≤ 9223372036854775807 ∧ n ≤ 17 * k ∧ Hid (EQ U1 32 wx w.heap.size (.slice so n co) n L) ∧ Hid (BW w wx))
  case atStart => exact ⟨0, 0, none, 0, [], rfl, by omega, rfl, rfl, by omega, by omega, EQ.nil _ _ _ _, BW.refl _⟩
  case round =>
    obtain ⟨k, n, so, co, L, rfl, hk, rfl, rfl, hco, hn, Q, B⟩ := hrel
    obtain rfl | rfl : k = 1 ∨ k = 0 := by omega
    · go_wp2_with fail
      go_ret
      exact ⟨so, n, co, L, rfl, by omega, Q.out, B.out⟩
    · obtain rfl : n = 0 := by omega
      have z0 := (hp_cell (hL.out.bw B.out) 0).trans (show _ = some (.int .u16 s) from rfl)
      have z1 := (hp_cell (hL.out.bw B.out) 1).trans (show _ = some (.int .u16 b) from rfl)
      have BA : BW wr (wr.alloc (.cells #[.int .u16 s, .int .u16 b] 75)) := (BW.refl _).alloc
      have X1 := Lib.hid (HpB.new wr (.cells #[.int .u16 s, .int .u16 b] 75))
      have Q1 := Lib.hid (Q.out.bw BA)
      have B1 := Lib.hid (B.out.trans BA)
      clear Q B
      replace BA := Lib.hid BA
      go_upto_region 5 with (fail)
      generalize wr.alloc (.cells #[.int .u16 s, .int .u16 b] 75) = w1 at *
      generalize wr.heap.size = gx at *
      clear z0 z1
      have z0 := (hp_cell X1.out 0).trans (show _ = some (.int .u16 s) from rfl)
      have BC : BW w1 (w1.alloc (.cells #[.int .u16 s] 32)) := (BW.refl _).alloc
      have L2 := Lib.hid (Sls.new1 (E := U1) w1 32 [.int .u16 s] rfl)
      have Q2 := Lib.hid (Q1.out.bw BC)
      have B2 := Lib.hid (B1.out.trans BC)
      have X2 := Lib.hid (X1.out.bw BC)
      have hz2 := B2.out.size
      clear Q1 B1 X1
      replace BC := Lib.hid BC
      go_upto_region 7 with (at_builtin; go_must (refine wpList_apEQ slU16 rfl _ _ rfl w.heap.size (.slice so 0 co) 0 L rfl Q2.out _ rfl 1 [s] [.int .u16 s] L2.out (EL.single rfl) rfl (by omega) hz2 (fun _ _ => trivial) ?_; intro s3 c3 w3 hc3 hm3 Q3 T3 hb3 G3; unfold maxLen at hm3; replace Q3 := Lib.hid Q3; replace T3 := Lib.hid T3; replace G3 := Lib.hid G3; clear hb3))
      have B3 := Lib.hid (BW.stP B2.out T3.out (fun j hj => Q2.out.ge' j (by simpa using hj)))
      have X3 := Lib.hid (X2.out.st T3.out (fun hm => Q2.out.ne X2.out (by decide) gx (by simpa using hm) rfl))
      clear Q2 B2 X2 T3 G3 L2 z0 hz2
      obtain ⟨wp, hwp⟩ : ∃ wp, wp = w3 := ⟨_, rfl⟩
      rw [← hwp] at X3 B3 Q3 ⊢
      clear hwp
      go_loopg [3, 18] 16 (fun m' out i wx => ∃ (q n : Nat) (so : Option Addr) (co : Nat) (L : List Int), m' = 16 - q ∧ q ≤ 16 ∧ i = .int .i64 (q : Nat) ∧ out = .slice so n co ∧ co ≤ 9223372036854775807 ∧ n ≤ 1 + q ∧ Hid (EQ U1 32 wx w.heap.size (.slice so n co) n L) ∧ Hid (HpB wx gx (.cells #[.int .u16 s, .int .u16 b] 75)) ∧ Hid (BW w wx))
      case atStart => exact ⟨0, 1, s3, c3, _, rfl, by omega, rfl, rfl, by omega, by omega, Q3, X3, B3⟩
      case round =>
        clear Q3 X3 B3
        obtain ⟨q, n, so, co, L, rfl, hq, rfl, rfl, hco, hn, Q, X, B⟩ := hrel
        by_cases hq16 : q < 16
        · have d : decide ((q : Int) < 16) = true := by simp; omega
          have z0 := (hp_cell X.out 0).trans (show _ = some (.int .u16 s) from rfl)
          have z1 := (hp_cell X.out 1).trans (show _ = some (.int .u16 b) from rfl)
          go_upto_if 26 with (fail)
          obtain ⟨tb, htb⟩ : ∃ tb, (bits BinOp.and IntKind.u16 (b / 2 ^ q) 1 != 0) = tb := ⟨_, rfl⟩
          rw [htb]
          cases tb with
          | false =>
            go_wp2_with fail
            go_roundg (16 - (q + 1))
            case measure => omega
            case rel => exact ⟨q + 1, n, so, co, L, rfl, by omega, by first | rfl | (congr 1; omega), rfl, hco, by omega, Q, X, B⟩
          | true =>
            have BC : BW wr (wr.alloc (.cells #[.int .u16 (IntKind.u16.wrap (IntKind.u16.wrap (s + 1) + (q : Int)))] 32)) := (BW.refl _).alloc
            have L2 := Lib.hid (Sls.new1 (E := U1) wr 32 [.int .u16 (IntKind.u16.wrap (IntKind.u16.wrap (s + 1) + (q : Int)))] rfl)
            have Q2 := Lib.hid (Q.out.bw BC)
            have B2 := Lib.hid (B.out.trans BC)
            have X2 := Lib.hid (X.out.bw BC)
            have hz2 := B2.out.size
            clear Q B X
            replace BC := Lib.hid BC
            go_upto_region 11 with (at_builtin; go_must (refine wpList_apEQ slU16 rfl _ _ rfl w.heap.size (.slice so n co) n L rfl Q2.out _ rfl 1 [IntKind.u16.wrap (IntKind.u16.wrap (s + 1) + (q : Int))] [.int .u16 (IntKind.u16.wrap (IntKind.u16.wrap (s + 1) + (q : Int)))] L2.out (EL.single rfl) rfl (by omega) hz2 (fun _ _ => trivial) ?_; intro s3 c3 w3 hc3 hm3 Q3 T3 hb3 G3; unfold maxLen at hm3; replace Q3 := Lib.hid Q3; replace T3 := Lib.hid T3; replace G3 := Lib.hid G3; clear hb3))
            have B3 := Lib.hid (BW.stP B2.out T3.out (fun j hj => Q2.out.ge' j (by simpa using hj)))
            have X3 := Lib.hid (X2.out.st T3.out (fun hm => Q2.out.ne X2.out (by decide) gx (by simpa using hm) rfl))
            clear Q2 B2 X2 T3 G3 L2 z0 hz2
            go_wp2_with fail
            go_roundg (16 - (q + 1))
            case measure => omega
            case rel => exact ⟨q + 1, n + 1, s3, c3, _, rfl, by omega, by first | rfl | (congr 1; omega), rfl, by omega, by omega, Q3, X3, B3⟩
        · obtain rfl : q = 16 := by omega
          have d : decide (((16 : Nat) : Int) < 16) = false := by decide
          go_wp2_with fail
          go_roundg 0
          case measure => omega
          case rel => exact ⟨1, n, so, co, L, rfl, by omega, rfl, rfl, hco, by omega, Q, B⟩
end Go.Proofs.Ytojedpahaifjgaa
