/- Covers of packets: the least number, to which all others are near ahead. No condition but the sizes'. -/
import Derived.Test.YtgiajnfmjpdodaaFeB
namespace Go.Proofs.Ytgiajnfmjpdodaa
open Go.RowKit

/-- How far a number is ahead of another one. -/
def dst (f t : Nat) : Nat := (t + 65536 - f) % 65536
theorem wrap_dst {f t : Nat} (hf : f < 65536) (ht : t < 65536) : IntKind.u16.wrap ((t : Int) - (f : Int)) = (dst f t : Nat) := by
  unfold dst
  simp only [IntKind.wrap, IntKind.signed, IntKind.bits, IntKind.min, IntKind.max] <;> simp <;> omega
def farB (f t : Nat) : Bool := decide (16 ≤ dst f t)
theorem far_any (f t xb : Nat) (w : World) (hf : f < 65536) (ht : t < 65536) (hx : w.cell? ⟨xb, 0, none⟩ = some (.int .u16 (f : Nat))) :
    Calls Try.prog 95 #[.int .u16 (t : Nat), .pointer (some ⟨xb, 0, none⟩)] w fun e w' => e = .returned (.bool (farB f t)) ∧ w = w' := by
  have q := wrap_dst hf ht
  have hR : farB f t = decide ((16 : Int) ≤ (dst f t : Int)) := by unfold farB; exact decide_eq_decide.2 (by omega)
  generalize dst f t = d at *
  replace hR := Lib.hid hR
  go_enter Try.func95, Try.ntmps95
  go_wp2_with fail
  go_ret
  rw [hR.out]
  exact ⟨rfl, rfl⟩
set_option maxRecDepth 100000 in
set_option maxHeartbeats 8000000 in
theorem idxfar_any (base f xb : Nat) (v : Value) (n : Nat) (L : List Nat) (w : World) (h : EQ I16 24 w base v n L) (hn : n ≤ 1000000) (hL : ∀ x ∈ L, x < 65536) (hf : f < 65536) (hx : w.cell? ⟨xb, 0, none⟩ = some (.int .u16 (f : Nat))) :
    Calls Try.prog 106 #[v, .func (.func 95) #[] #[.pointer (some ⟨xb, 0, none⟩)]] w fun e w' => ∃ r : Int, e = .returned (.int .i64 r) ∧ decide (0 ≤ r) = L.any (farB f) ∧ w = w' := by
  obtain ⟨sa, cap, rfl, hnc, hcm⟩ := h.len
  unfold maxLen at hcm
  have hQ := Lib.hid h
  have hdl := Lib.hid h.1
  clear h
  replace hL := Lib.hid hL
  replace hx := Lib.hid hx
  go_enter Try.func106, Try.ntmps106
  go_upto_region 2 with (fail)
  go_loopg [8] n (fun m' i wx => ∃ k : Nat, m' = n - k ∧ k ≤ n ∧ i = .int .i64 (k : Nat) ∧ Hid (L.any (farB f) = (L.drop k).any (farB f)) ∧ w = wx)
  case atStart => exact ⟨0, by omega, by omega, rfl, Lib.hid (by rw [List.drop_zero]), rfl⟩
  case round =>
    obtain ⟨k, rfl, hk, rfl, hA, rfl⟩ := hrel
    by_cases hkn : k < n
    · have d : decide ((k : Int) < (n : Int)) = true := by simp; omega
      have hkL : k < L.length := by rw [hdl.out]; exact hkn
      obtain ⟨g, o, rfl, hc⟩ := i16_form hQ.out (by omega)
      have z := hc k hkL
      have hA2 := hA.out
      rw [List.drop_eq_getElem_cons hkL, List.any_cons] at hA2
      have ht := hL.out _ (List.getElem_mem hkL)
      clear hc
      generalize L[k] = t at *
      have cF := Lib.hid (far_any f t xb w hf ht hx.out)
      go_wp2_with fail
      refine Calls.mono cF.out ?_
      rintro e w2 ⟨rfl, rfl⟩
      clear cF
      dsimp only
      cases hb : farB f t with
      | true =>
        have hR : L.any (farB f) = true := by rw [hA2, hb]; rfl
        replace hR := Lib.hid hR
        replace hA2 := Lib.hid hA2
        replace hb := Lib.hid hb
        go_wp2_with fail
        go_ret
        exact ⟨(k : Int), rfl, by rw [hR.out]; simp, rfl⟩
      | false =>
        rw [hb, Bool.false_or] at hA2
        replace hA2 := Lib.hid hA2
        replace hb := Lib.hid hb
        clear z d
        go_wp2_with fail
        go_roundg (n - (k + 1))
        case measure => omega
        case rel => exact ⟨k + 1, rfl, by omega, by push_cast; rfl, hA2, rfl⟩
    · obtain rfl : k = n := by omega
      have d : decide ((k : Int) < (k : Int)) = false := by simp
      have hR : L.any (farB f) = false := by rw [hA.out, List.drop_of_length_le (by rw [hdl.out]; exact Nat.le_refl _)]; rfl
      replace hR := Lib.hid hR
      go_wp2_with fail
      go_ret
      exact ⟨-1, rfl, by rw [hR.out]; decide, rfl⟩
theorem hasfar_any (base f xb : Nat) (v : Value) (n : Nat) (L : List Nat) (w : World) (h : EQ I16 24 w base v n L) (hn : n ≤ 1000000) (hL : ∀ x ∈ L, x < 65536) (hf : f < 65536) (hx : w.cell? ⟨xb, 0, none⟩ = some (.int .u16 (f : Nat))) :
    Calls Try.prog 96 #[v, .func (.func 95) #[] #[.pointer (some ⟨xb, 0, none⟩)]] w fun e w' => e = .returned (.bool (L.any (farB f))) ∧ w = w' := by
  have c := Lib.hid (idxfar_any base f xb v n L w h hn hL hf hx)
  obtain ⟨sa, cap, rfl, hnc, hcm⟩ := h.len
  clear h hL hx
  generalize L.any (farB f) = b at *
  go_enter Try.func96, Try.ntmps96
  go_wp2_with fail
  refine Calls.mono c.out ?_
  rintro e w2 ⟨r, rfl, hr, rfl⟩
  dsimp only
  go_wp2_with fail
  go_ret
  exact ⟨rfl, rfl⟩
/-- The first of some numbers to which all of them are near ahead. -/
def baseN (L : List Nat) : Option Nat := L.find? fun f => !(L.any (farB f))
set_option maxRecDepth 100000 in
set_option maxHeartbeats 8000000 in
theorem base_any (base : Nat) (v : Value) (n : Nat) (L : List Nat) (w : World) (h : EQ I16 24 w base v n L) (hn : n ≤ 1000000) (hL : ∀ x ∈ L, x < 65536) :
    Calls Try.prog 73 #[v] w fun e w' => e = .returned (.tuple #[.int .u16 ((baseN L).getD 0 : Nat), .bool (baseN L).isSome]) ∧ BW w w' := by
  have hmf : ∀ (fn : Fn) (first cap : Array Value) (w : World), (Instr.makeFunc fn first cap).run Try.prog w = .ok (.func fn first cap) w := fun _ _ _ _ => rfl
  obtain ⟨sa, cap, rfl, hnc, hcm⟩ := h.len
  unfold maxLen at hcm
  have hQ := Lib.hid h
  have hdl := Lib.hid h.1
  clear h
  have hA : baseN L = (L.drop 0).find? fun f => !(L.any (farB f)) := by rw [List.drop_zero]; rfl
  generalize baseN L = R at *
  replace hL := Lib.hid hL
  replace hA := Lib.hid hA
  go_enter Try.func73, Try.ntmps73
  go_upto_region 2 with (fail)
  go_loopg [9] n (fun m' i wx => ∃ k : Nat, m' = n - k ∧ k ≤ n ∧ i = .int .i64 (k : Nat) ∧ Hid (R = (L.drop k).find? fun f => !(L.any (farB f))) ∧ Hid (BW w wx))
  case atStart => exact ⟨0, by omega, by omega, rfl, hA, BW.refl _⟩
  case round =>
    clear hA
    obtain ⟨k, rfl, hk, rfl, hA, B⟩ := hrel
    by_cases hkn : k < n
    · have d : decide ((k : Int) < (n : Int)) = true := by simp; omega
      have hkL : k < L.length := by rw [hdl.out]; exact hkn
      obtain ⟨g, o, rfl, hc⟩ := i16_form (hQ.out.bw B.out) (by omega)
      have z := hc k hkL
      have hA2 := hA.out
      rw [List.drop_eq_getElem_cons hkL, List.find?_cons] at hA2
      have ht := hL.out _ (List.getElem_mem hkL)
      clear hc
      generalize L[k] = t at *
      obtain ⟨wq, rfl⟩ : ∃ y, y = wr := ⟨_, rfl⟩
      replace hA2 := Lib.hid hA2
      go_upto_region 5 with (fail)
      obtain ⟨w2, hw2⟩ : ∃ w2, w2 = wq.alloc (.cells #[.int .u16 (t : Nat)] 24) := ⟨_, rfl⟩
      have B2 : BW wq w2 := by rw [hw2]; exact (BW.refl wq).alloc
      have x0 : w2.cell? ⟨wq.heap.size, 0, none⟩ = some (.int .u16 (t : Nat)) := by rw [hw2]; exact hp_cell (HpB.new _ _) 0
      rw [← hw2]
      have B3 := Lib.hid (B.out.trans B2)
      generalize wq.heap.size = xb at *
      clear hw2 z d B2 B
      have cC := Lib.hid (hasfar_any base t xb _ n L w2 (hQ.out.bw B3.out) hn hL.out ht x0)
      go_wp2_with fail
      refine Calls.mono cC.out ?_
      rintro e w3 ⟨rfl, rfl⟩
      clear cC
      dsimp only
      cases hb : L.any (farB t) with
      | false =>
        have hR : R = some t := by rw [hA2.out, hb]; rfl
        replace hR := Lib.hid hR
        replace hb := Lib.hid hb
        go_wp2_with fail
        go_ret2
        rw [hR.out]
        exact ⟨rfl, B3.out⟩
      | true =>
        have hA3 : R = (L.drop (k + 1)).find? fun f => !(L.any (farB f)) := by rw [hA2.out, hb]; rfl
        replace hA3 := Lib.hid hA3
        replace hb := Lib.hid hb
        clear x0
        go_wp2_with fail
        go_roundg (n - (k + 1))
        case measure => omega
        case rel => exact ⟨k + 1, rfl, by omega, by push_cast; rfl, hA3, B3⟩
    · obtain rfl : k = n := by omega
      have d : decide ((k : Int) < (k : Int)) = false := by simp
      have hR : R = none := by rw [hA.out, List.drop_of_length_le (by rw [hdl.out]; exact Nat.le_refl _)]; rfl
      replace hR := Lib.hid hR
      go_wp2_with fail
      go_ret2
      rw [hR.out]
      exact ⟨rfl, B.out⟩
end Go.Proofs.Ytgiajnfmjpdodaa
