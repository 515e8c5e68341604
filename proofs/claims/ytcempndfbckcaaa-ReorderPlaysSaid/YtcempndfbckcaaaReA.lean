/- Packets put into order: the queue's elements; which is less. No condition but the sizes'. -/
import Derived.Test.YtcempndfbckcaaaEls
import Derived.Test.YtcempndfbckcaaaIB
import Derived.Lib.Hide
namespace Go.Proofs.Ytcempndfbckcaaa
open Go.RowKit

theorem EL.put3 {α : Type} {E : Elt α} {w : World} {base : Nat} (hs : E.size = 3) {a : α} {u0 u1 u2 : Value} (hu : E.R w base a [u0, u1, u2]) : ∀ {l : List α} {xs : List Value} (i : Nat), EL E w base l xs → EL E w base (l.set i a) (((xs.set (i * 3) u0).set (i * 3 + 1) u1).set (i * 3 + 2) u2)
  | [], xs, i, h => by rw [show xs = [] from h]; exact rfl
  | b :: l, _, 0, ⟨c, xs', e, h1, h2⟩ => by
    have hc := E.len h1
    rw [hs] at hc
    match c, hc with
    | [x0, x1, x2], _ => subst e; exact ⟨[u0, u1, u2], xs', rfl, hu, h2⟩
  | b :: l, _, i + 1, ⟨c, xs', e, h1, h2⟩ => by
    have hc := E.len h1
    rw [hs] at hc
    match c, hc with
    | [x0, x1, x2], _ =>
      subst e
      rw [show (i + 1) * 3 = i * 3 + 3 by omega]
      exact ⟨[x0, x1, x2], _, rfl, h1, h2.put3 hs hu i⟩
theorem EQ.put3 {α : Type} {E : Elt α} {T : TypeId} {w : World} {base : Nat} {g o n cap : Nat} {l : List α} (h : EQ E T w base (.slice (some ⟨g, o, none⟩) n cap) n l) (hs : E.size = 3) (hOk : E.Ok w g) {a : α} {u0 u1 u2 : Value} (hu : E.R w base a [u0, u1, u2]) (i : Nat) (hi : i < n) : EQ E T (((w.setCell ⟨g, o + i * 3, none⟩ u0).setCell ⟨g, o + i * 3 + 1, none⟩ u1).setCell ⟨g, o + i * 3 + 2, none⟩ u2) base (.slice (some ⟨g, o, none⟩) n cap) n (l.set i a) := by
  obtain ⟨h0, xs, h1, h2⟩ := h
  have hst : Still [g] w (((w.setCell ⟨g, o + i * 3, none⟩ u0).setCell ⟨g, o + i * 3 + 1, none⟩ u1).setCell ⟨g, o + i * 3 + 2, none⟩ u2) := (((still_sc w g (o + i * 3) u0).trans (still_sc _ g (o + i * 3 + 1) u1)).trans (still_sc _ g (o + i * 3 + 2) u2))
  have hr := (Ows.set (Ows.set (Ows.set h1 (i * 3) (by rw [hs]; omega) u0) (i * 3 + 1) (by rw [hs]; omega) u1) (i * 3 + 2) (by rw [hs]; omega) u2)
  simp only [← Nat.add_assoc] at hr
  refine ⟨by rw [List.length_set]; exact h0, _, hr, ?_⟩
  exact (h2.put3 hs hu i).mono fun _ _ h => E.still h hst (by simpa using hOk)
theorem still_put3 (w : World) (g o i : Nat) (u0 u1 u2 : Value) : Still [g] w (((w.setCell ⟨g, o + i * 3, none⟩ u0).setCell ⟨g, o + i * 3 + 1, none⟩ u1).setCell ⟨g, o + i * 3 + 2, none⟩ u2) := (((still_sc w g (o + i * 3) u0).trans (still_sc _ g (o + i * 3 + 1) u1)).trans (still_sc _ g (o + i * 3 + 2) u2))
structure Ent where
  i : Int
  b : List Nat
  c : Int
/-- A number, bytes, a tick. -/
def EN : Elt Ent where
  size := 3
  R := fun w base e c => ∃ v, c = [.int .i64 e.i, v, .int .i64 e.c] ∧ OB w base 5 v e.b.length e.b
  Ok := NoB
  pos := by decide
  len := fun ⟨v, e, _⟩ => by rw [e]; rfl
  one := fun ⟨v, e, hv⟩ u hu => by
    rw [e] at hu
    obtain ⟨s, c, rfl, _, _⟩ := hv.len
    simp at hu
    rcases hu with rfl | rfl | rfl <;> rfl
  bw := fun ⟨v, e, hv⟩ hb => ⟨v, e, hv.bw hb⟩
  up := fun ⟨v, e, hv⟩ hb => ⟨v, e, hv.up hb⟩
  still := fun ⟨v, e, hv⟩ hs hS => ⟨v, e, hv.still hs (NoB.ob hv hS)⟩
  old := fun ⟨v, e, hv⟩ hs hS => ⟨v, e, hv.still hs (fun k hk hm => by have := hv.ge' k hk; have := hS k hm; omega)⟩
theorem slEn : SlTy Try.prog 126 131 3 40 := SlTy.mk' Try.underlying126 (by kernel_rfl) (by decide)
theorem en_form {T : TypeId} {w : World} {base : Nat} {sv : Option Addr} {n cap : Nat} {L : List Ent} (h : EQ EN T w base (.slice sv n cap) n L) (h0 : 0 < n) :
    ∃ g o, sv = some ⟨g, o, none⟩ ∧ base ≤ g ∧ ∀ i (hi : i < L.length), ∃ s cb, w.cell? ⟨g, o + i * 3, none⟩ = some (.int .i64 (L[i]).i) ∧ w.cell? ⟨g, o + i * 3 + 1, none⟩ = some (.slice s (L[i]).b.length cb) ∧ w.cell? ⟨g, o + i * 3 + 2, none⟩ = some (.int .i64 (L[i]).c) ∧ OB w base 5 (.slice s (L[i]).b.length cb) (L[i]).b.length (L[i]).b := by
  obtain ⟨g, o, cap', hsl, hgb, _, _, _, hce⟩ := h.form h0
  simp only [Value.slice.injEq] at hsl
  refine ⟨g, o, hsl.1, hgb, fun i hi => ?_⟩
  obtain ⟨c, ⟨u, hc, hu⟩, hcc⟩ := hce i hi
  have hs : EN.size = 3 := rfl
  obtain ⟨s, cb, rfl, _, _⟩ := hu.len
  have z0 := hcc 0 (by decide)
  have z1 := hcc 1 (by decide)
  have z2 := hcc 2 (by decide)
  rw [hc, hs] at z0 z1 z2
  exact ⟨s, cb, z0, z1, z2, hu⟩
set_option maxRecDepth 100000 in
set_option maxHeartbeats 8000000 in
theorem less_any (base : Nat) (v : Value) (n : Nat) (L : List Ent) (i k : Nat) (hi : i < L.length) (hk : k < L.length) (w : World) (h : EQ EN 131 w base v n L) :
    Calls Try.prog 171 #[v, .int .i64 (i : Nat), .int .i64 (k : Nat)] w fun e w' => e = .returned (.bool (decide ((L[i]).i < (L[k]).i))) ∧ BW w w' := by
  obtain ⟨sv, cv, rfl, hnc, hcm⟩ := h.len
  unfold maxLen at hcm
  have hl := h.1
  obtain ⟨g, o, rfl, -, hc⟩ := en_form h (by omega)
  obtain ⟨_, _, z0, -⟩ := hc i hi
  obtain ⟨_, _, y0, -⟩ := hc k hk
  have m0 : ∀ y : LaterS [] w, _ := fun y => y.bw.cell z0
  have m1 : ∀ y : LaterS [] w, _ := fun y => y.bw.cell y0
  have hin : i < n := by omega
  have hkn : k < n := by omega
  clear hc h z0 y0
  generalize (L[i]).i = a at *
  generalize (L[k]).i = b at *
  clear hl hi hk
  go_enter Try.func171, Try.ntmps171
  go_upto_region 1 with (fail)
  refine wp_region_gg [] [] [] (by kernel_rfl) ?_
  refine hoist [] [] (a1 := ?_) 0 rfl (by kernel_rfl) (.inl ⟨rfl, rfl⟩) rfl rfl rfl (fun x K hK => ?_) ?_
  rotate_left
  · go_big_quiet_op
    exact hK
  refine hoist [] [] (a1 := ?_) 1 rfl (by kernel_rfl) (.inl ⟨rfl, rfl⟩) rfl rfl rfl (fun x K hK => ?_) ?_
  rotate_left
  · go_big_quiet_op
    exact hK
  refine hoist [] [] (a1 := ?_) 2 rfl (by kernel_rfl) (.inl ⟨rfl, rfl⟩) rfl rfl rfl (fun x K hK => ?_) ?_
  rotate_left
  · go_big_quiet_op
    exact hK
  refine hoist [] [] (a1 := ?_) 3 rfl (by kernel_rfl) (.inl ⟨rfl, rfl⟩) rfl rfl rfl (fun x K hK => ?_) ?_
  rotate_left
  · go_big_quiet_op
    exact hK
  refine hoist [] [] (a1 := ?_) 4 rfl (by kernel_rfl) (.inl ⟨rfl, rfl⟩) rfl rfl rfl (fun x K hK => ?_) ?_
  rotate_left
  · go_big_quiet_op
    exact hK
  refine hoist [] [] (a1 := ?_) 5 rfl (by kernel_rfl) (.inl ⟨rfl, rfl⟩) rfl rfl rfl (fun x K hK => ?_) ?_
  rotate_left
  · go_big_quiet_op
    exact hK
  refine hoist [] [] (a1 := ?_) 6 rfl (by kernel_rfl) (.inl ⟨rfl, rfl⟩) rfl rfl rfl (fun x K hK => ?_) ?_
  rotate_left
  · go_big_quiet_op
    exact hK
  refine hoist [] [] (a1 := ?_) 7 rfl (by kernel_rfl) (.inl ⟨rfl, rfl⟩) rfl rfl rfl (fun x K hK => ?_) ?_
  rotate_left
  · go_big_quiet_op
    exact hK
  refine hoist [] [] (a1 := ?_) 8 rfl (by kernel_rfl) (.inl ⟨rfl, rfl⟩) rfl rfl rfl (fun x K hK => ?_) ?_
  rotate_left
  · go_big_quiet_op
    exact hK
  refine hoist [] [] (a1 := ?_) 9 rfl (by kernel_rfl) (.inl ⟨rfl, rfl⟩) rfl rfl rfl (fun x K hK => ?_) ?_
  rotate_left
  · go_big_quiet_op
    exact hK
  refine hoist [] [] (a1 := ?_) 10 rfl (by kernel_rfl) (.inl ⟨rfl, rfl⟩) rfl rfl rfl (fun x K hK => ?_) ?_
  rotate_left
  · go_big_quiet_op
    exact hK
  refine hoist [] [] (a1 := ?_) 11 rfl (by kernel_rfl) (.inl ⟨rfl, rfl⟩) rfl rfl rfl (fun x K hK => ?_) ?_
  rotate_left
  · go_big_quiet_op
    exact hK
  refine hoist [] [] (a1 := ?_) 12 rfl (by kernel_rfl) (.inl ⟨rfl, rfl⟩) rfl rfl rfl (fun x K hK => ?_) ?_
  rotate_left
  · go_big_quiet_op
    exact hK
  refine hoist [] [] (a1 := ?_) 13 rfl (by kernel_rfl) (.inl ⟨rfl, rfl⟩) rfl rfl rfl (fun x K hK => ?_) ?_
  rotate_left
  · go_big_quiet_op
    exact hK
  refine done (by kernel_rfl) (fun xr => ?_)
  have B := Lib.hid xr.bw
  go_wp2_with fail
  go_ret
  exact ⟨rfl, B.out⟩
end Go.Proofs.Ytcempndfbckcaaa
