/- Covers of packets: the packets that are read; great; seqs. No condition but the sizes'. -/
import Derived.Test.YtgiajnfmjpdodaaRtN
import Derived.Test.YtgiajnfmjpdodaaRtR
import Derived.Test.YtgiajnfmjpdodaaEl
namespace Go.Proofs.Ytgiajnfmjpdodaa
open Go.RowKit

/-- v reads as packets. -/
structure RL (w : World) (v : Value) (n : Nat) (D : List RtpD) : Prop where
  dl : D.length = n
  sl : ∃ sa cap, v = .slice sa n cap ∧ n ≤ cap ∧ cap ≤ maxLen
  at_ : 0 < n → ∃ b o cap, v = .slice (some ⟨b, o, none⟩) n cap ∧ ∀ i (h : i < D.length), ∃ c : Array Value, RtpV w c D[i] ∧ ∀ j, j < 11 → w.cell? ⟨b, o + i * 11 + j, none⟩ = c[j]?
  wf : ∀ d ∈ D, RtpWf d
theorem RL.bw {w w' : World} {v : Value} {n : Nat} {D : List RtpD} (h : RL w v n D) (hb : BW w w') : RL w' v n D := by
  refine ⟨h.dl, h.sl, fun h0 => ?_, h.wf⟩
  obtain ⟨b, o, cap, e, hc⟩ := h.at_ h0
  refine ⟨b, o, cap, e, fun i hi => ?_⟩
  obtain ⟨c, hv, hcc⟩ := hc i hi
  refine ⟨c, hv.bw hb, fun j hj => ?_⟩
  obtain ⟨ov, ev, pv, rfl, _⟩ := hv
  have h1 := hcc j hj
  obtain ⟨u, hu⟩ : ∃ u, (rtpC (D[i]).marker (D[i]).typ (D[i]).seq (D[i]).stamp (D[i]).source ov (D[i]).ext (D[i]).profile ev pv (D[i]).pad)[j]? = some u := ⟨_, Array.getElem?_eq_getElem (show j < 11 from hj)⟩
  rw [hu] at h1 ⊢
  exact hb.cell h1
/-- The cells of a packet that is read. -/
theorem RL.form {w : World} {sa : Option Addr} {n cap : Nat} {D : List RtpD} (h : RL w (.slice sa n cap) n D) (h0 : 0 < n) : ∃ b o, sa = some ⟨b, o, none⟩ ∧ ∀ i (hi : i < D.length), ∃ so co se ce sp cp,
    RtpV w (rtpC (D[i]).marker (D[i]).typ (D[i]).seq (D[i]).stamp (D[i]).source (.slice so (D[i]).others.length co) (D[i]).ext (D[i]).profile (.slice se (D[i]).extra.length ce) (.slice sp (D[i]).payload.length cp) (D[i]).pad) D[i] ∧
    (D[i]).others.length ≤ co ∧ co ≤ 9223372036854775807 ∧ (D[i]).extra.length ≤ ce ∧ ce ≤ 9223372036854775807 ∧ (D[i]).payload.length ≤ cp ∧ cp ≤ 9223372036854775807 ∧
    ∀ j, j < 11 → w.cell? ⟨b, o + i * 11 + j, none⟩ = (rtpC (D[i]).marker (D[i]).typ (D[i]).seq (D[i]).stamp (D[i]).source (.slice so (D[i]).others.length co) (D[i]).ext (D[i]).profile (.slice se (D[i]).extra.length ce) (.slice sp (D[i]).payload.length cp) (D[i]).pad)[j]? := by
  obtain ⟨b, o, cap', e, hc⟩ := h.at_ h0
  simp only [Value.slice.injEq] at e
  refine ⟨b, o, e.1, fun i hi => ?_⟩
  obtain ⟨c, hv, hcc⟩ := hc i hi
  obtain ⟨so_, co, se, ce, sp, cp, rfl, N, E, D'⟩ := hv.open
  obtain ⟨_, _, e1, n1, m1⟩ := N.len
  obtain ⟨_, _, e2, n2, m2⟩ := E.len
  obtain ⟨_, _, e3, n3, m3⟩ := D'.len
  simp only [Value.slice.injEq, true_and] at e1 e2 e3
  obtain ⟨rfl, rfl⟩ := e1
  obtain ⟨rfl, rfl⟩ := e2
  obtain ⟨rfl, rfl⟩ := e3
  unfold maxLen at m1 m2 m3
  exact ⟨so_, co, se, ce, sp, cp, hv, n1, m1, n2, m2, n3, m3, hcc⟩
theorem rtps_at {w : World} {a : Option Addr} {len cap : Nat} (h : Rd w (.loop rtpTy) [.slice a len cap]) : ∃ D, RL w (.slice a len cap) len D := by
  obtain ⟨h1, h2, h3⟩ := Rd.slice_at h (by decide)
  rcases h3 with ⟨_, h, _⟩ | ⟨_, h, _⟩ | ⟨b, o, rfl, hb, hc, hi⟩
  · exact ⟨[], by simp [h], ⟨_, _, rfl, h1, h2⟩, fun h0 => by omega, fun d hd => by cases hd⟩
  · exact ⟨[], by simp [h], ⟨_, _, rfl, h1, h2⟩, fun h0 => by omega, fun d hd => by cases hd⟩
  · have key : ∀ i, i < len → ∃ d, RtpWf d ∧ ∃ c : Array Value, RtpV w c d ∧ ∀ j, j < 11 → w.cell? ⟨b, o + i * 11 + j, none⟩ = c[j]? := fun i hil => by
      obtain ⟨cs, hl, hr, hx⟩ := hi i (by omega)
      obtain ⟨d, hv, hw⟩ := RtpV_of_Rd (cs := cs.toArray) hr
      exact ⟨d, hw, cs.toArray, hv, fun j hj => by rw [List.getElem?_toArray]; exact hx j hj⟩
    have pick : ∀ m, m ≤ len → ∃ D : List RtpD, D.length = m ∧ (∀ d ∈ D, RtpWf d) ∧ ∀ i (h : i < D.length), ∃ c : Array Value, RtpV w c D[i] ∧ ∀ j, j < 11 → w.cell? ⟨b, o + i * 11 + j, none⟩ = c[j]? := by
      intro m
      induction m with
      | zero => exact fun _ => ⟨[], rfl, (fun d hd => by cases hd), fun i h => by simp at h⟩
      | succ m ih =>
        intro hm
        obtain ⟨D, e1, e2, e3⟩ := ih (by omega)
        obtain ⟨d, k1, c, k2, k3⟩ := key m (by omega)
        refine ⟨D ++ [d], by rw [List.length_append, e1]; rfl, fun x hx => ?_, fun i hi => ?_⟩
        · rcases List.mem_append.1 hx with hx | hx
          · exact e2 x hx
          · obtain rfl : x = d := by simpa using hx
            exact k1
        · by_cases hil : i < D.length
          · rw [List.getElem_append_left hil]; exact e3 i hil
          · rw [List.length_append, List.length_singleton] at hi
            obtain rfl : i = D.length := by omega
            rw [List.getElem_append_right (Nat.le_refl _)]
            simp only [Nat.sub_self, List.getElem_singleton]
            rw [e1]
            exact ⟨c, k2, k3⟩
    obtain ⟨D, e1, e2, e3⟩ := pick len (Nat.le_refl _)
    exact ⟨D, e1, ⟨_, _, rfl, h1, h2⟩, fun _ => ⟨b, o, cap, rfl, e3⟩, e2⟩

/-- More than the statements look at. -/
def bigD (d : RtpD) : Bool := decide (1500 < d.payload.length ∨ 1500 < d.extra.length ∨ 100 < d.others.length)
def greatB (D : List RtpD) : Bool := D.any bigD || decide (40 < D.length)
set_option maxRecDepth 100000 in
set_option maxHeartbeats 8000000 in
theorem great_any (v : Value) (n : Nat) (D : List RtpD) (w : World) (h : RL w v n D) :
    Calls Try.prog 37 #[v] w fun e w' => e = .returned (.bool (greatB D)) ∧ w = w' := by
  obtain ⟨sa, cap, rfl, hnc, hcm⟩ := h.sl
  unfold maxLen at hcm
  have hH := Lib.hid h
  have hdl := Lib.hid h.dl
  clear h
  have hG : greatB D = ((D.drop 0).any bigD || decide (40 < n)) := by rw [List.drop_zero, ← hdl.out]; rfl
  replace hG := Lib.hid hG
  go_enter Try.func37, Try.ntmps37
  go_upto_region 2 with (fail)
  go_loopg [3] n (fun m' i wx => ∃ k : Nat, m' = n - k ∧ k ≤ n ∧ i = .int .i64 (k : Nat) ∧ Hid (greatB D = ((D.drop k).any bigD || decide (40 < n))) ∧ w = wx)
  case atStart => exact ⟨0, by omega, by omega, rfl, hG, rfl⟩
  case round =>
    clear hG
    obtain ⟨k, rfl, hk, rfl, hG, rfl⟩ := hrel
    by_cases hkn : k < n
    · have d : decide ((k : Int) < (n : Int)) = true := by simp; omega
      obtain ⟨b, o, rfl, hc⟩ := hH.out.form (by omega)
      have hkD : k < D.length := by rw [hdl.out]; exact hkn
      obtain ⟨so, co, se, ce, sp, cp, -, n1, m1, n2, m2, n3, m3, hcc⟩ := hc k hkD
      have z9 := hcc 9 (by decide)
      have z8 := hcc 8 (by decide)
      have z5 := hcc 5 (by decide)
      simp only [rtpC, List.getElem?_toArray, List.getElem?_cons_zero, List.getElem?_cons_succ] at z9 z8 z5
      have hG2 := hG.out
      rw [List.drop_eq_getElem_cons hkD, List.any_cons] at hG2
      have hbg : bigD D[k] = decide (1500 < (D[k]).payload.length ∨ 1500 < (D[k]).extra.length ∨ 100 < (D[k]).others.length) := rfl
      rw [hbg] at hG2
      clear hcc hc hbg
      generalize (D[k]).payload.length = np at *
      generalize (D[k]).extra.length = ne at *
      generalize (D[k]).others.length = no at *
      by_cases h1 : 1500 < np
      · have t1 : decide ((1500 : Int) < (np : Int)) = true := by simp; omega
        have hR : greatB D = true := by rw [hG2, decide_eq_true (.inl h1)]; rfl
        replace hR := Lib.hid hR
        replace hG2 := Lib.hid hG2
        go_wp2_with fail
        go_ret
        rw [hR.out]
        exact ⟨rfl, rfl⟩
      have t1 : decide ((1500 : Int) < (np : Int)) = false := by simp; omega
      by_cases h2 : 1500 < ne
      · have t2 : decide ((1500 : Int) < (ne : Int)) = true := by simp; omega
        have hR : greatB D = true := by rw [hG2, decide_eq_true (.inr (.inl h2))]; rfl
        replace hR := Lib.hid hR
        replace hG2 := Lib.hid hG2
        go_wp2_with fail
        go_ret
        rw [hR.out]
        exact ⟨rfl, rfl⟩
      have t2 : decide ((1500 : Int) < (ne : Int)) = false := by simp; omega
      by_cases h3 : 100 < no
      · have t3 : decide ((100 : Int) < (no : Int)) = true := by simp; omega
        have hR : greatB D = true := by rw [hG2, decide_eq_true (.inr (.inr h3))]; rfl
        replace hR := Lib.hid hR
        replace hG2 := Lib.hid hG2
        go_wp2_with fail
        go_ret
        rw [hR.out]
        exact ⟨rfl, rfl⟩
      have t3 : decide ((100 : Int) < (no : Int)) = false := by simp; omega
      have hR : greatB D = ((D.drop (k + 1)).any bigD || decide (40 < n)) := by rw [hG2, decide_eq_false (by omega), Bool.false_or]
      replace hR := Lib.hid hR
      replace hG2 := Lib.hid hG2
      go_wp2_with fail
      go_roundg (n - (k + 1))
      case measure => omega
      case rel => exact ⟨k + 1, rfl, by omega, by push_cast; rfl, hR, rfl⟩
    · obtain rfl : k = n := by omega
      have d : decide ((k : Int) < (k : Int)) = false := by simp
      have hR : greatB D = decide ((40 : Int) < (k : Int)) := by
        rw [hG.out, List.drop_of_length_le (by rw [hdl.out]; exact Nat.le_refl _), List.any_nil, Bool.false_or]
        exact decide_eq_decide.2 (by omega)
      replace hR := Lib.hid hR
      go_wp2_with fail
      go_ret
      rw [hR.out]
      exact ⟨rfl, rfl⟩
end Go.Proofs.Ytgiajnfmjpdodaa
