/- Packets of media as values and variables; what they are read as. No condition. -/
import Derived.Test.YtgiajnfmjpdodaaRtC
import Derived.Test.YtgiajnfmjpdodaaNs
import Derived.Test.YtgiajnfmjpdodaaRtBt
import Derived.Test.YtgiajnfmjpdodaaRg2
namespace Go.Proofs.Ytgiajnfmjpdodaa
open Go.RowKit

theorem slU32' : SlTy Try.prog 26 25 1 4 := SlTy.mk' Try.underlying26 (by kernel_rfl) (by decide)
def nz (l : List Nat) : List Int := l.map fun (n : Nat) => (n : Int)
/-- A packet as a value, its slices of a call's own. -/
def RtpO (w : World) (base : Nat) (c : Array Value) (d : RtpD) : Prop :=
  ∃ ov ev pv, c = rtpC d.marker d.typ d.seq d.stamp d.source ov d.ext d.profile ev pv d.pad ∧ NO w base 25 .u32 ov d.others.length (nz d.others) ∧ OB w base 5 ev d.extra.length d.extra ∧ OB w base 5 pv d.payload.length d.payload
/-- A packet as a value that is read. -/
def RtpV (w : World) (c : Array Value) (d : RtpD) : Prop :=
  ∃ ov ev pv, c = rtpC d.marker d.typ d.seq d.stamp d.source ov d.ext d.profile ev pv d.pad ∧ NB w .u32 ov d.others.length (nz d.others) ∧ SB w ev d.extra.length d.extra ∧ SB w pv d.payload.length d.payload
theorem RtpO.v {w : World} {base : Nat} {c : Array Value} {d : RtpD} (h : RtpO w base c d) : RtpV w c d := by
  obtain ⟨ov, ev, pv, rfl, h1, h2, h3⟩ := h
  exact ⟨ov, ev, pv, rfl, h1.nb, h2.sb, h3.sb⟩
theorem RtpO.bw {w w' : World} {base : Nat} {c : Array Value} {d : RtpD} (h : RtpO w base c d) (hb : BW w w') : RtpO w' base c d := by
  obtain ⟨ov, ev, pv, rfl, h1, h2, h3⟩ := h
  exact ⟨ov, ev, pv, rfl, h1.bw hb, h2.bw hb, h3.bw hb⟩
theorem RtpV.bw {w w' : World} {c : Array Value} {d : RtpD} (h : RtpV w c d) (hb : BW w w') : RtpV w' c d := by
  obtain ⟨ov, ev, pv, rfl, h1, h2, h3⟩ := h
  exact ⟨ov, ev, pv, rfl, h1.bw hb, h2.bw hb, h3.bw hb⟩
theorem RtpO.up {w : World} {base base' : Nat} {c : Array Value} {d : RtpD} (h : RtpO w base c d) (hb : base' ≤ base) : RtpO w base' c d := by
  obtain ⟨ov, ev, pv, rfl, h1, h2, h3⟩ := h
  exact ⟨ov, ev, pv, rfl, h1.up hb, h2.up hb, h3.up hb⟩
def zC : Array Value := rtpC false 0 0 0 0 (.slice none 0 0) false 0 (.slice none 0 0) (.slice none 0 0) 0
theorem RtpO.zero (w : World) (base : Nat) : RtpO w base zC rZero := ⟨_, _, _, rfl, NO.nil _ _ _ _, OB.nil _ _ _, OB.nil _ _ _⟩

/-- What comes of a reader's packet. -/
def PkPost (g : Nat) (R : Nat × Nat × RtpD) (w : World) (e : Ending) (w' : World) : Prop :=
  (R.1 = 0 ∧ ∃ c, e = .returned (.tuple #[.agg c, .int .i64 (R.2.1 : Nat)]) ∧ RtpO w' w.heap.size c R.2.2 ∧ Still [g] w w') ∨ (R.1 ≠ 0 ∧ e = gaveUp R.1 ∧ Still [g] w w')
theorem PkPost.no {g : Nat} {R : Nat × Nat × RtpD} {w w' : World} {e : Ending} (k : Nat) (hk : R.1 = k) (h0 : k ≠ 0) (he : e = gaveUp k) (hs : Still [g] w w') : PkPost g R w e w' :=
  .inr ⟨by rw [hk]; exact h0, by rw [hk]; exact he, hs⟩
theorem nm_one (l : List Nat) (i : Nat) (h : i < l.length) : nm l i 1 = l.getD i 0 := by
  unfold nm
  rw [List.drop_eq_getElem_cons h, List.take_succ_cons, List.take_zero, List.getD_eq_getElem?_getD, List.getElem?_eq_getElem h]
  simp [numB]

theorem Still.own2 {S0 S : List Nat} {a b c : World} (T : Still S0 a b) (h : Still S b c) (hS : ∀ k ∈ S, k ∈ S0 ∨ a.heap.size ≤ k) : Still S0 a c := by
  refine ⟨h.os.trans T.os, h.tape.trans T.tape, h.output.trans T.output, Nat.le_trans T.size h.size, fun k hk hs => ?_⟩
  rw [h.block k (Nat.lt_of_lt_of_le hk T.size) (fun hm => (hS k hm).elim hs (fun hl => Nat.lt_irrefl _ (Nat.lt_of_lt_of_le hk hl))), T.block k hk hs]

theorem SB.own_lt {w : World} {v : Value} {n : Nat} {l : List Nat} (h : SB w v n l) (h0 : 0 < n) (k : Nat) (hk : v.ownBlock = some k) : k < w.heap.size := by
  obtain ⟨b, o, cap, rfl, _, _, h3, _⟩ := h.2.2.form h0
  obtain rfl : b = k := by simpa [Value.ownBlock] using hk
  exact h3

theorem readN_at (l : List Nat) {x0 k : Nat} {xb pb : Bool} (h1 : ¬ 1200 < l.length) (h2 : ¬ l.length < 12) (e0 : l.getD 0 0 = x0) (h3 : ¬ x0 / 64 ≠ 2) (hk : x0 % 16 = k) (hx : (x0 / 16 % 2 == 1) = xb) (hp : (x0 / 32 % 2 == 1) = pb) (h4 : ¬ l.length < 12 + 4 * k) :
    readN l = (let x := rExt l xb (12 + 4 * k)
      if x.1 ≠ 0 then (x.1, 0, rZero)
      else match rPad pb (l.drop x.2.1) with
        | none => (3, 0, rZero)
        | some p => (0, x.2.1, ⟨l.getD 1 0 / 128 == 1, l.getD 1 0 % 128, nm l 2 2, nm l 4 4, nm l 8 4, rOthers l k, xb, x.2.2.1, x.2.2.2, (l.drop x.2.1).take (l.length - x.2.1 - p), p⟩)) := by
  unfold readN
  rw [if_neg h1, if_neg h2, e0, if_neg h3, hk, if_neg h4, hx, hp]
  rfl
theorem rExt_no (l : List Nat) (A len : Nat) (hl : l.length = len) (h : ¬ (A + 4 + 4 * nm l (A + 2) 2 ≤ len ∧ nm l (A + 2) 2 ≤ 255)) : ∃ k, ((len < A + 4 ∧ k = 2) ∨ (A + 4 ≤ len ∧ len < A + 4 + 4 * nm l (A + 2) 2 ∧ k = 2) ∨ (A + 4 + 4 * nm l (A + 2) 2 ≤ len ∧ 255 < nm l (A + 2) 2 ∧ k = 3)) ∧ rExt l true A = (k, 0, 0, []) ∧ k ≠ 0 := by
  unfold rExt
  rw [if_pos rfl, hl]
  by_cases a : len < A + 4
  · exact ⟨2, .inl ⟨a, rfl⟩, by rw [if_pos a], by decide⟩
  by_cases b : len < A + 4 + 4 * nm l (A + 2) 2
  · exact ⟨2, .inr (.inl ⟨by omega, b, rfl⟩), by rw [if_neg a, if_pos b], by decide⟩
  · exact ⟨3, .inr (.inr ⟨by omega, by omega, rfl⟩), by rw [if_neg a, if_neg b, if_pos (by omega)], by decide⟩
theorem rExt_ok (l : List Nat) (A len : Nat) (hl : l.length = len) (h : A + 4 + 4 * nm l (A + 2) 2 ≤ len ∧ nm l (A + 2) 2 ≤ 255) : rExt l true A = (0, A + 4 + 4 * nm l (A + 2) 2, nm l A 2, (l.drop (A + 4)).take (4 * nm l (A + 2) 2)) := by
  unfold rExt
  rw [if_pos rfl, hl, if_neg (by omega), if_neg (by omega), if_neg (by omega)]

theorem still_set11 (w : World) (z : Nat) (v0 v1 v2 v3 v4 v5 v6 v7 v8 v9 v10 : Value) : Still [z] w (((((((((((w.setCell ⟨z, 0, none⟩ v0).setCell ⟨z, 1, none⟩ v1).setCell ⟨z, 2, none⟩ v2).setCell ⟨z, 3, none⟩ v3).setCell ⟨z, 4, none⟩ v4).setCell ⟨z, 5, none⟩ v5).setCell ⟨z, 6, none⟩ v6).setCell ⟨z, 7, none⟩ v7).setCell ⟨z, 8, none⟩ v8).setCell ⟨z, 9, none⟩ v9).setCell ⟨z, 10, none⟩ v10) :=
  (((((((((((still_setCR w z 0 v0).trans (still_setCR _ z 1 v1)).trans (still_setCR _ z 2 v2)).trans (still_setCR _ z 3 v3)).trans (still_setCR _ z 4 v4)).trans (still_setCR _ z 5 v5)).trans (still_setCR _ z 6 v6)).trans (still_setCR _ z 7 v7)).trans (still_setCR _ z 8 v8)).trans (still_setCR _ z 9 v9)).trans (still_setCR _ z 10 v10))
theorem set11_arr (c : Array Value) (hc : c.size = 11) (v0 v1 v2 v3 v4 v5 v6 v7 v8 v9 v10 : Value) : (((((((((((c.setIfInBounds 0 v0).setIfInBounds 1 v1).setIfInBounds 2 v2).setIfInBounds 3 v3).setIfInBounds 4 v4).setIfInBounds 5 v5).setIfInBounds 6 v6).setIfInBounds 7 v7).setIfInBounds 8 v8).setIfInBounds 9 v9).setIfInBounds 10 v10) = #[v0, v1, v2, v3, v4, v5, v6, v7, v8, v9, v10] := by
  obtain ⟨l⟩ := c
  match l, hc with
  | [_, _, _, _, _, _, _, _, _, _, _], _ => simp only [List.setIfInBounds_toArray, List.set_cons_zero, List.set_cons_succ]
theorem PkV.set11 {w : World} {z : Nat} {c : Array Value} (h : PkV w z c) (hc : c.size = 11) (v0 v1 v2 v3 v4 v5 v6 v7 v8 v9 v10 : Value) : PkV (((((((((((w.setCell ⟨z, 0, none⟩ v0).setCell ⟨z, 1, none⟩ v1).setCell ⟨z, 2, none⟩ v2).setCell ⟨z, 3, none⟩ v3).setCell ⟨z, 4, none⟩ v4).setCell ⟨z, 5, none⟩ v5).setCell ⟨z, 6, none⟩ v6).setCell ⟨z, 7, none⟩ v7).setCell ⟨z, 8, none⟩ v8).setCell ⟨z, 9, none⟩ v9).setCell ⟨z, 10, none⟩ v10) z #[v0, v1, v2, v3, v4, v5, v6, v7, v8, v9, v10] := by
  have k := ((((((((((h.set 0 v0).set 1 v1).set 2 v2).set 3 v3).set 4 v4).set 5 v5).set 6 v6).set 7 v7).set 8 v8).set 9 v9).set 10 v10
  rw [set11_arr c hc] at k
  exact k
end Go.Proofs.Ytgiajnfmjpdodaa
