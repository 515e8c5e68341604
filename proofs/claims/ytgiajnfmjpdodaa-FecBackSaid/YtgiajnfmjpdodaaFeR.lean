/- Covers of packets: which numbers lack. No condition but the sizes'. -/
import Derived.Test.YtgiajnfmjpdodaaGFb
import Derived.Test.YtgiajnfmjpdodaaEls
namespace Go.Proofs.Ytgiajnfmjpdodaa
open Go.RowKit

def hasS (D : List RtpD) (s : Nat) : Bool := (D.find? (isSeq s)).isSome
set_option maxRecDepth 100000 in
set_option maxHeartbeats 8000000 in
theorem has_any (sa : Option Addr) (n cap : Nat) (D : List RtpD) (s lb : Nat) (w : World) (h : RL w (.slice sa n cap) n D) (hn : n ≤ 1000000) (hx : w.cell? ⟨lb, 0, none⟩ = some (.slice sa n cap)) :
    Calls Try.prog 89 #[.int .u16 (s : Nat), .pointer (some ⟨lb, 0, none⟩)] w fun e w' => e = .returned (.bool (hasS D s)) ∧ BW w w' := by
  have cO := Lib.hid (of_any _ n D s w h hn)
  unfold OfPost at cO
  have hR : hasS D s = (D.find? (isSeq s)).isSome := rfl
  obtain ⟨_, _, he, hc, hm⟩ := h.sl
  cases he
  unfold maxLen at hm
  generalize hasS D s = r at *
  clear h
  replace hR := Lib.hid hR
  go_enter Try.func89, Try.ntmps89
  go_wp2_with fail
  refine Calls.mono cO.out ?_
  rintro e w2 ⟨⟨d, c, hf, rfl, hV⟩ | ⟨hf, rfl⟩, hb⟩
  · obtain ⟨s5, c5, s8, c8, s9, c9, rfl, -, -, -⟩ := hV.open
    have h2 := hR.out
    rw [hf] at h2
    obtain rfl : r = true := h2
    clear cO hR hV hf hx
    simp only [rtpC]
    replace hb := Lib.hid hb
    go_wp2_with fail
    go_ret
    exact ⟨rfl, hb.out.alloc⟩
  · have h2 := hR.out
    rw [hf] at h2
    obtain rfl : r = false := h2
    clear cO hR hf hx
    simp only [zC, rtpC]
    replace hb := Lib.hid hb
    go_wp2_with fail
    go_ret
    exact ⟨rfl, hb.out.alloc⟩

/-- What is told of a search: its place. -/
def IxPost (p : Nat → Bool) (L : List Nat) (w : World) (e : Ending) (w' : World) : Prop :=
  ((e = .returned (.int .i64 (-1)) ∧ L.filter p = []) ∨ ∃ (i : Nat) (_ : i < L.length), e = .returned (.int .i64 (i : Nat)) ∧ (L.take (i + 1)).filter (fun x => !(p x)) = L.take i) ∧ BW w w'
set_option maxRecDepth 100000 in
set_option maxHeartbeats 8000000 in
theorem idxhas_any (base : Nat) (v : Value) (m : Nat) (L : List Nat) (sa : Option Addr) (n cap : Nat) (D : List RtpD) (lb : Nat) (w : World) (hq : EQ I16 24 w base v m L) (hm0 : m ≤ 1000000) (h : RL w (.slice sa n cap) n D) (hn : n ≤ 1000000) (hx : w.cell? ⟨lb, 0, none⟩ = some (.slice sa n cap)) :
    Calls Try.prog 106 #[v, .func (.func 89) #[] #[.pointer (some ⟨lb, 0, none⟩)]] w (IxPost (hasS D) L w) := by
  unfold IxPost
  obtain ⟨sv, cv, rfl, hnc, hcm⟩ := hq.len
  unfold maxLen at hcm
  have hdl := Lib.hid hq.1
  have cF := fun (s : Nat) wz (hb : BW w wz) => Lib.hid (has_any sa n cap D s lb wz (h.bw hb) hn (hb.cell hx))
  generalize hasS D = p at *
  clear h hx
  replace hq := Lib.hid hq
  replace cF := Lib.hid cF
  go_enter Try.func106, Try.ntmps106
  go_upto_region 2 with (fail)
  go_loopg [8] m (fun m' i wx => ∃ k : Nat, m' = m - k ∧ k ≤ m ∧ i = .int .i64 (k : Nat) ∧ Hid (∀ x ∈ L.take k, p x = false) ∧ Hid (BW w wx))
  case atStart => exact ⟨0, by omega, by omega, rfl, (fun x hx => by simp at hx), BW.refl _⟩
  case round =>
    obtain ⟨k, rfl, hk, rfl, hA, B⟩ := hrel
    by_cases hkn : k < m
    · have d : decide ((k : Int) < (m : Int)) = true := by simp; omega
      have hkL : k < L.length := by rw [hdl.out]; exact hkn
      obtain ⟨g, o, rfl, hc⟩ := i16_form (hq.out.bw B.out) (by omega)
      have z := hc k hkL
      have htk := List.take_succ_eq_append_getElem hkL
      clear hc
      generalize L[k] = t at *
      have cF1 := cF.out t wr B.out
      replace htk := Lib.hid htk
      go_wp2_with fail
      refine Calls.mono cF1.out ?_
      rintro e w2 ⟨rfl, hb⟩
      have B2 := Lib.hid (B.out.trans hb)
      clear cF1 hb z B
      dsimp only
      cases hp : p t with
      | true =>
        replace hp := Lib.hid hp
        go_wp2_with fail
        go_ret
        refine ⟨.inr ⟨k, hkL, rfl, ?_⟩, B2.out⟩
        rw [htk.out, List.filter_append, List.filter_eq_self.2 (fun x hx => by rw [hA.out x hx]; rfl)]
        simp [hp.out]
      | false =>
        have hA2 : ∀ x ∈ L.take (k + 1), p x = false := fun x hx => by
          rw [htk.out] at hx
          rcases List.mem_append.1 hx with hx | hx
          · exact hA.out x hx
          · obtain rfl : x = t := by simpa using hx
            exact hp
        replace hp := Lib.hid hp
        replace hA2 := Lib.hid hA2
        clear d
        go_wp2_with fail
        go_roundg (m - (k + 1))
        case measure => omega
        case rel => exact ⟨k + 1, rfl, by omega, by push_cast; rfl, hA2, B2⟩
    · obtain rfl : k = m := by omega
      have d : decide ((k : Int) < (k : Int)) = false := by simp
      have hR : L.filter p = [] := by
        have := hA.out
        rw [List.take_of_length_le (by rw [hdl.out]; exact Nat.le_refl _)] at this
        exact List.filter_eq_nil_iff.2 (fun x hx => by rw [this x hx]; decide)
      replace hR := Lib.hid hR
      go_wp2_with fail
      go_ret
      exact ⟨.inl ⟨rfl, hR.out⟩, B.out⟩

set_option maxRecDepth 100000 in
set_option maxHeartbeats 8000000 in
theorem clone16_any (base : Nat) (v : Value) (m : Nat) (L : List Nat) (w : World) (hq : EQ I16 24 w base v m L) (h0 : 0 < m) (hm : m ≤ 1000000) :
    Calls Try.prog 88 #[v] w fun e w' => ∃ u, e = .returned u ∧ EQ I16 24 w' w.heap.size u m L ∧ BW w w' := by
  obtain ⟨g, o, cap, rfl, _, _, hnc, hcm, _⟩ := hq.form h0
  unfold maxLen at hcm
  have heq := fun (w : World) => Lib.run_eql_slice_nil (P := Try.prog) w 114 24 (some ⟨g, o, none⟩) m cap 0 0 Try.underlying114
  have B1 : BW w (w.alloc (.cells #[] 24)) := (BW.refl _).alloc
  have hg1 : (w.alloc (.cells #[] 24)).heap[w.heap.size]? = some (.cells #[] 24 (0, 0)) := HpB.new w _
  obtain ⟨hl, ys, h1, h2⟩ := hq.bw B1
  have hS := Lib.hid h1.sls
  have hY : Hid (EL I16 (w.alloc (.cells #[] 24)) w.heap.size L ys) := Lib.hid (EL.mono (base := base) (base' := w.heap.size) (w' := w.alloc (.cells #[] 24)) (fun _ _ h => h) h2)
  have hb1 := B1.size
  have B2 := Lib.hid B1
  replace hg1 := Lib.hid hg1
  replace hl := Lib.hid hl
  clear h1 h2 hq B1
  go_enter Try.func88, Try.ntmps88
  go_wp2_with (at_builtin; go_must (refine wpList_plain rfl fun _ hK => wp_apEQ0 slU16 _ _ rfl w.heap.size w.heap.size rfl (Nat.le_refl _) hg1.out _ rfl m L ys hS.out hY.out hl.out (by omega) hb1 ?_; intro s5 c5 w5 hc5 hm5 Q5 B5 G5; refine hK _ _ ?_; clear hK; unfold maxLen at hm5; replace Q5 := Lib.hid Q5; replace B5 := Lib.hid B5; clear G5))
  go_ret
  exact ⟨_, rfl, Q5.out, B2.out.trans B5.out⟩
end Go.Proofs.Ytgiajnfmjpdodaa
