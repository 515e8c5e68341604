/- The table of tasks: the queue's elements; which is less. No condition but the sizes'. -/
import Derived.Test.YtcempndfbckcaaaEls
import Derived.Test.YtcempndfbckcaaaIB
import Derived.Lib.Hide
namespace Go.Proofs.Ytcempndfbckcaaa
open Go.RowKit

theorem EL.put4 {α : Type} {E : Elt α} {w : World} {base : Nat} (hs : E.size = 4) {a : α} {u0 u1 u2 u3 : Value} (hu : E.R w base a [u0, u1, u2, u3]) : ∀ {l : List α} {xs : List Value} (i : Nat), EL E w base l xs → EL E w base (l.set i a) ((((xs.set (i * 4) u0).set (i * 4 + 1) u1).set (i * 4 + 2) u2).set (i * 4 + 3) u3)
  | [], xs, i, h => by rw [show xs = [] from h]; exact rfl
  | b :: l, _, 0, ⟨c, xs', e, h1, h2⟩ => by
    have hc := E.len h1
    rw [hs] at hc
    match c, hc with
    | [x0, x1, x2, x3], _ => subst e; exact ⟨[u0, u1, u2, u3], xs', rfl, hu, h2⟩
  | b :: l, _, i + 1, ⟨c, xs', e, h1, h2⟩ => by
    have hc := E.len h1
    rw [hs] at hc
    match c, hc with
    | [x0, x1, x2, x3], _ =>
      subst e
      rw [show (i + 1) * 4 = i * 4 + 4 by omega]
      exact ⟨[x0, x1, x2, x3], _, rfl, h1, h2.put4 hs hu i⟩
theorem EQ.put4 {α : Type} {E : Elt α} {T : TypeId} {w : World} {base : Nat} {g o n cap : Nat} {l : List α} (h : EQ E T w base (.slice (some ⟨g, o, none⟩) n cap) n l) (hs : E.size = 4) (hOk : E.Ok w g) {a : α} {u0 u1 u2 u3 : Value} (hu : E.R w base a [u0, u1, u2, u3]) (i : Nat) (hi : i < n) : EQ E T ((((w.setCell ⟨g, o + i * 4, none⟩ u0).setCell ⟨g, o + i * 4 + 1, none⟩ u1).setCell ⟨g, o + i * 4 + 2, none⟩ u2).setCell ⟨g, o + i * 4 + 3, none⟩ u3) base (.slice (some ⟨g, o, none⟩) n cap) n (l.set i a) := by
  obtain ⟨h0, xs, h1, h2⟩ := h
  have hst : Still [g] w ((((w.setCell ⟨g, o + i * 4, none⟩ u0).setCell ⟨g, o + i * 4 + 1, none⟩ u1).setCell ⟨g, o + i * 4 + 2, none⟩ u2).setCell ⟨g, o + i * 4 + 3, none⟩ u3) := ((((still_sc w g (o + i * 4) u0).trans (still_sc _ g (o + i * 4 + 1) u1)).trans (still_sc _ g (o + i * 4 + 2) u2)).trans (still_sc _ g (o + i * 4 + 3) u3))
  have hr := (Ows.set (Ows.set (Ows.set (Ows.set h1 (i * 4) (by rw [hs]; omega) u0) (i * 4 + 1) (by rw [hs]; omega) u1) (i * 4 + 2) (by rw [hs]; omega) u2) (i * 4 + 3) (by rw [hs]; omega) u3)
  simp only [← Nat.add_assoc] at hr
  refine ⟨by rw [List.length_set]; exact h0, _, hr, ?_⟩
  exact (h2.put4 hs hu i).mono fun _ _ h => E.still h hst (by simpa using hOk)
theorem still_put4 (w : World) (g o i : Nat) (u0 u1 u2 u3 : Value) : Still [g] w ((((w.setCell ⟨g, o + i * 4, none⟩ u0).setCell ⟨g, o + i * 4 + 1, none⟩ u1).setCell ⟨g, o + i * 4 + 2, none⟩ u2).setCell ⟨g, o + i * 4 + 3, none⟩ u3) := ((((still_sc w g (o + i * 4) u0).trans (still_sc _ g (o + i * 4 + 1) u1)).trans (still_sc _ g (o + i * 4 + 2) u2)).trans (still_sc _ g (o + i * 4 + 3) u3))
structure Tk where
  n : Int
  t : Int
  p : Int
  s : ByteArray
/-- By ticks, then by numbers. -/
def Tk.key (x : Tk) : Int := x.t * 18446744073709551616 + x.n
/-- A number, a tick, a period, a name. -/
def TN : Elt Tk where
  size := 4
  R := fun _ _ e c => c = [.int .i64 e.n, .int .i64 e.t, .int .i64 e.p, .string e.s] ∧ 0 ≤ e.n ∧ e.n ≤ 9223372036854775807
  Ok := fun _ _ => True
  pos := by decide
  len := fun ⟨e, _⟩ => by rw [e]; rfl
  one := fun ⟨e, _⟩ u hu => by
    rw [e] at hu
    simp at hu
    rcases hu with rfl | rfl | rfl | rfl <;> rfl
  bw := fun e _ => e
  up := fun e _ => e
  still := fun e _ _ => e
  old := fun e _ _ => e
theorem slTk : SlTy Try.prog 139 144 4 40 := SlTy.mk' Try.underlying139 (by kernel_rfl) (by decide)
theorem tn_form {T : TypeId} {w : World} {base : Nat} {sv : Option Addr} {n cap : Nat} {L : List Tk} (h : EQ TN T w base (.slice sv n cap) n L) (h0 : 0 < n) :
    ∃ g o, sv = some ⟨g, o, none⟩ ∧ base ≤ g ∧ ∀ i (hi : i < L.length), w.cell? ⟨g, o + i * 4, none⟩ = some (.int .i64 (L[i]).n) ∧ w.cell? ⟨g, o + i * 4 + 1, none⟩ = some (.int .i64 (L[i]).t) ∧ w.cell? ⟨g, o + i * 4 + 2, none⟩ = some (.int .i64 (L[i]).p) ∧ w.cell? ⟨g, o + i * 4 + 3, none⟩ = some (.string (L[i]).s) ∧ 0 ≤ (L[i]).n ∧ (L[i]).n ≤ 9223372036854775807 := by
  obtain ⟨g, o, cap', hsl, hgb, _, _, _, hce⟩ := h.form h0
  simp only [Value.slice.injEq] at hsl
  refine ⟨g, o, hsl.1, hgb, fun i hi => ?_⟩
  obtain ⟨c, ⟨hc, h1, h2⟩, hcc⟩ := hce i hi
  have hs : TN.size = 4 := rfl
  have z0 := hcc 0 (by decide)
  have z1 := hcc 1 (by decide)
  have z2 := hcc 2 (by decide)
  have z3 := hcc 3 (by decide)
  rw [hc, hs] at z0 z1 z2 z3
  exact ⟨z0, z1, z2, z3, h1, h2⟩
def cmpI (a b : Int) : Int := if a < b then -1 else if b < a then 1 else 0
def orI (a b : Int) : Int := if a = 0 then b else a
theorem key_lt {x y : Tk} (hx : 0 ≤ x.n ∧ x.n ≤ 9223372036854775807) (hy : 0 ≤ y.n ∧ y.n ≤ 9223372036854775807) : decide (orI (cmpI x.t y.t) (cmpI x.n y.n) < 0) = decide (x.key < y.key) := by
  rw [decide_eq_decide]
  unfold orI cmpI Tk.key
  by_cases h1 : x.t < y.t
  · rw [if_pos h1, if_neg (by decide)]
    exact ⟨fun _ => by omega, fun _ => by decide⟩
  rw [if_neg h1]
  by_cases h2 : y.t < x.t
  · rw [if_pos h2, if_neg (by decide)]
    exact ⟨fun h => absurd h (by decide), fun h => by omega⟩
  rw [if_neg h2, if_pos rfl]
  by_cases h3 : x.n < y.n
  · rw [if_pos h3]
    exact ⟨fun _ => by omega, fun _ => by decide⟩
  rw [if_neg h3]
  by_cases h4 : y.n < x.n
  · rw [if_pos h4]
    exact ⟨fun h => absurd h (by decide), fun h => by omega⟩
  rw [if_neg h4]
  exact ⟨fun h => absurd h (by decide), fun h => by omega⟩
theorem key_inj {x y : Tk} (hx : 0 ≤ x.n ∧ x.n ≤ 9223372036854775807) (hy : 0 ≤ y.n ∧ y.n ≤ 9223372036854775807) (h : x.key = y.key) : x.n = y.n := by
  unfold Tk.key at h; omega
set_option maxRecDepth 100000 in
set_option maxHeartbeats 8000000 in
theorem nan64_any (a : Int) (w : World) : Calls Try.prog 181 #[.int .i64 a] w fun e w' => e = .returned (.bool false) ∧ w' = w := by
  have d : (a != a) = false := by simp
  go_enter Try.func181, Try.ntmps181
  go_wp2_with fail
  go_ret
  exact ⟨rfl, rfl⟩
set_option maxRecDepth 100000 in
set_option maxHeartbeats 8000000 in
theorem nan_any (a : Int) (w : World) : Calls Try.prog 182 #[.int .i64 a] w fun e w' => e = .returned (.bool false) ∧ w' = w := by
  have d : (a != a) = false := by simp
  go_enter Try.func182, Try.ntmps182
  go_wp2_with fail
  go_ret
  exact ⟨rfl, rfl⟩
set_option maxRecDepth 100000 in
set_option maxHeartbeats 8000000 in
theorem cmp64_any (a b : Int) (w : World) : Calls Try.prog 179 #[.int .i64 a, .int .i64 b] w fun e w' => e = .returned (.int .i64 (cmpI a b)) ∧ w' = w := by
  have c1 := Lib.hid (nan64_any a w)
  have c2 := Lib.hid (nan64_any b w)
  by_cases h1 : a < b
  · have e : cmpI a b = -1 := if_pos h1
    have d1 : decide (a < b) = true := by simpa using h1
    replace e := Lib.hid e
    go_enter Try.func179, Try.ntmps179
    go_wp2_with fail
    refine c1.out.mono ?_
    rintro e1 w1 ⟨rfl, rfl⟩
    dsimp only
    go_wp2_with fail
    refine c2.out.mono ?_
    rintro e2 w2 ⟨rfl, rfl⟩
    dsimp only
    go_wp2_with fail
    go_ret
    exact ⟨by rw [e.out]; rfl, rfl⟩
  · have d1 : decide (a < b) = false := by simpa using h1
    by_cases h2 : b < a
    · have e : cmpI a b = 1 := by unfold cmpI; rw [if_neg h1, if_pos h2]
      have d2 : decide (b < a) = true := by simpa using h2
      replace e := Lib.hid e
      go_enter Try.func179, Try.ntmps179
      go_wp2_with fail
      refine c1.out.mono ?_
      rintro e1 w1 ⟨rfl, rfl⟩
      dsimp only
      go_wp2_with fail
      refine c2.out.mono ?_
      rintro e2 w2 ⟨rfl, rfl⟩
      dsimp only
      go_wp2_with fail
      go_ret
      exact ⟨by rw [e.out]; rfl, rfl⟩
    · have e : cmpI a b = 0 := by unfold cmpI; rw [if_neg h1, if_neg h2]
      have d2 : decide (b < a) = false := by simpa using h2
      replace e := Lib.hid e
      go_enter Try.func179, Try.ntmps179
      go_wp2_with fail
      refine c1.out.mono ?_
      rintro e1 w1 ⟨rfl, rfl⟩
      dsimp only
      go_wp2_with fail
      refine c2.out.mono ?_
      rintro e2 w2 ⟨rfl, rfl⟩
      dsimp only
      go_wp2_with fail
      go_ret
      exact ⟨by rw [e.out]; rfl, rfl⟩
set_option maxRecDepth 100000 in
set_option maxHeartbeats 8000000 in
theorem cmpn_any (a b : Int) (w : World) : Calls Try.prog 180 #[.int .i64 a, .int .i64 b] w fun e w' => e = .returned (.int .i64 (cmpI a b)) ∧ w' = w := by
  have c1 := Lib.hid (nan_any a w)
  have c2 := Lib.hid (nan_any b w)
  by_cases h1 : a < b
  · have e : cmpI a b = -1 := if_pos h1
    have d1 : decide (a < b) = true := by simpa using h1
    replace e := Lib.hid e
    go_enter Try.func180, Try.ntmps180
    go_wp2_with fail
    refine c1.out.mono ?_
    rintro e1 w1 ⟨rfl, rfl⟩
    dsimp only
    go_wp2_with fail
    refine c2.out.mono ?_
    rintro e2 w2 ⟨rfl, rfl⟩
    dsimp only
    go_wp2_with fail
    go_ret
    exact ⟨by rw [e.out]; rfl, rfl⟩
  · have d1 : decide (a < b) = false := by simpa using h1
    by_cases h2 : b < a
    · have e : cmpI a b = 1 := by unfold cmpI; rw [if_neg h1, if_pos h2]
      have d2 : decide (b < a) = true := by simpa using h2
      replace e := Lib.hid e
      go_enter Try.func180, Try.ntmps180
      go_wp2_with fail
      refine c1.out.mono ?_
      rintro e1 w1 ⟨rfl, rfl⟩
      dsimp only
      go_wp2_with fail
      refine c2.out.mono ?_
      rintro e2 w2 ⟨rfl, rfl⟩
      dsimp only
      go_wp2_with fail
      go_ret
      exact ⟨by rw [e.out]; rfl, rfl⟩
    · have e : cmpI a b = 0 := by unfold cmpI; rw [if_neg h1, if_neg h2]
      have d2 : decide (b < a) = false := by simpa using h2
      replace e := Lib.hid e
      go_enter Try.func180, Try.ntmps180
      go_wp2_with fail
      refine c1.out.mono ?_
      rintro e1 w1 ⟨rfl, rfl⟩
      dsimp only
      go_wp2_with fail
      refine c2.out.mono ?_
      rintro e2 w2 ⟨rfl, rfl⟩
      dsimp only
      go_wp2_with fail
      go_ret
      exact ⟨by rw [e.out]; rfl, rfl⟩
set_option maxRecDepth 100000 in
set_option maxHeartbeats 8000000 in
theorem or_any (a b : Int) (g : Nat) (w : World) (h0 : w.cell? ⟨g, 0, none⟩ = some (.int .i64 a)) (h1 : w.cell? ⟨g, 1, none⟩ = some (.int .i64 b)) :
    Calls Try.prog 178 #[.slice (some ⟨g, 0, none⟩) 2 2] w fun e w' => e = .returned (.int .i64 (orI a b)) ∧ w' = w := by
  go_enter Try.func178, Try.ntmps178
  go_upto_region 3 with (fail)
  go_loopg [8] 2 (fun m' i wx => ∃ k : Nat, m' = 2 - k ∧ k ≤ 2 ∧ i = .int .i64 (k : Nat) ∧ (1 ≤ k → a = 0) ∧ (2 ≤ k → b = 0) ∧ Hid (w = wx))
  case atStart => exact ⟨0, rfl, by omega, rfl, by omega, by omega, rfl⟩
  case round =>
    obtain ⟨k, rfl, hk, rfl, ha, hb, hw⟩ := hrel
    obtain rfl := hw.out
    obtain rfl | rfl | rfl : k = 0 ∨ k = 1 ∨ k = 2 := by omega
    · by_cases h : a = 0
      · have d : (a != 0) = false := by simpa using h
        replace h := Lib.hid h
        go_wp2_with fail
        go_roundg 1
        case measure => omega
        case rel => exact ⟨1, rfl, by omega, rfl, fun _ => h.out, by omega, rfl⟩
      · have d : (a != 0) = true := by simpa using h
        have e : orI a b = a := if_neg h
        replace h := Lib.hid h
        replace e := Lib.hid e
        go_wp2_with fail
        go_ret
        exact ⟨by rw [e.out]; rfl, rfl⟩
    · have ha' := ha (by omega)
      by_cases h : b = 0
      · have d : (b != 0) = false := by simpa using h
        replace h := Lib.hid h
        replace ha' := Lib.hid ha'
        replace ha := Lib.hid ha
        replace hb := Lib.hid hb
        go_wp2_with fail
        go_roundg 0
        case measure => omega
        case rel => exact ⟨2, rfl, by omega, rfl, fun _ => ha'.out, fun _ => h.out, rfl⟩
      · have d : (b != 0) = true := by simpa using h
        have e : orI a b = b := if_pos ha'
        replace h := Lib.hid h
        replace e := Lib.hid e
        replace ha' := Lib.hid ha'
        replace ha := Lib.hid ha
        replace hb := Lib.hid hb
        go_wp2_with fail
        go_ret
        exact ⟨by rw [e.out]; rfl, rfl⟩
    · have ha' := ha (by omega)
      have hb' := hb (by omega)
      have e : orI a b = 0 := by unfold orI; rw [if_pos ha', hb']
      replace e := Lib.hid e
      replace ha' := Lib.hid ha'
      replace hb' := Lib.hid hb'
      replace ha := Lib.hid ha
      replace hb := Lib.hid hb
      go_wp2_with fail
      go_ret
      exact ⟨by rw [e.out]; rfl, rfl⟩
end Go.Proofs.Ytcempndfbckcaaa
