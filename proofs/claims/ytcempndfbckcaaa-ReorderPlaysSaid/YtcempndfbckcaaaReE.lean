/- Packets put into order: the last one taken off the queue. No condition but the sizes'. -/
import Derived.Test.YtcempndfbckcaaaReD
namespace Go.Proofs.Ytcempndfbckcaaa
open Go.RowKit

theorem still_st3 (w : World) (z : Nat) (v0 v1 v2 : Value) : Still [z] w (((w.setCell ⟨z, 0, none⟩ v0).setCell ⟨z, 1, none⟩ v1).setCell ⟨z, 2, none⟩ v2) := (((still_sc w z 0 v0).trans (still_sc _ z 1 v1)).trans (still_sc _ z 2 v2))
theorem st3_arr (c : Array Value) (hc : c.size = 3) (v0 v1 v2 : Value) : (((c.setIfInBounds 0 v0).setIfInBounds 1 v1).setIfInBounds 2 v2) = #[v0, v1, v2] := by
  obtain ⟨l⟩ := c
  match l, hc with
  | [_, _, _], _ => simp only [List.setIfInBounds_toArray, List.set_cons_zero, List.set_cons_succ]
theorem HpB.st3 {w : World} {z : Nat} {c : Array Value} {T : TypeId} (h : HpB w z (.cells c T)) (hc : c.size = 3) (v0 v1 v2 : Value) : HpB (((w.setCell ⟨z, 0, none⟩ v0).setCell ⟨z, 1, none⟩ v1).setCell ⟨z, 2, none⟩ v2) z (.cells #[v0, v1, v2] T) := by
  have k := (hp_set (hp_set (hp_set h 0 v0) 1 v1) 2 v2)
  rw [st3_arr c hc] at k
  exact k
set_option maxRecDepth 100000 in
set_option maxHeartbeats 8000000 in
theorem qpop_any (base g0 f g o cv n : Nat) (c : Array Value) (L : List Ent) (hL : n < L.length) (w : World) (hg : g0 ≠ g) (hp : HpB w g0 (.cells c 128)) (hf : c[f]? = some (.slice (some ⟨g, o, none⟩) (n + 1) cv)) (h : EQ EN 131 w base (.slice (some ⟨g, o, none⟩) (n + 1) cv) (n + 1) L) :
    Calls Try.prog 173 #[.pointer (some ⟨g0, f, none⟩)] w fun e w' => ∃ s cb, e = .returned (.iface 131 (.agg #[.int .i64 (L[n]).i, .slice s (L[n]).b.length cb, .int .i64 (L[n]).c])) ∧ OB w' base 5 (.slice s (L[n]).b.length cb) (L[n]).b.length (L[n]).b ∧ HpB w' g0 (.cells (c.setIfInBounds f (.slice (some ⟨g, o, none⟩) n cv)) 128) ∧ EQ EN 131 w' base (.slice (some ⟨g, o, none⟩) n cv) n (L.take n) ∧ Still [g0] w w' := by
  obtain ⟨_, _, he, hnc, hcm⟩ := h.len
  cases he
  unfold maxLen at hcm
  have hl := h.1
  obtain ⟨g', o', he, hgb, hc⟩ := en_form h (by omega)
  cases he
  obtain ⟨s, cb, a0, a1, a2, O⟩ := hc n hL
  have hcc : w.cell? ⟨g0, f, none⟩ = some (.slice (some ⟨g, o, none⟩) (n + 1) cv) := by rw [hp_cell hp]; exact hf
  have hQ := Lib.hid h
  have hfr := h.frz (by omega) (o + n * 3)
  have hP := Lib.hid hp
  refine Calls.mono (R := fun e w' => e = .returned (.iface 131 (.agg #[.int .i64 (L[n]).i, .slice s (L[n]).b.length cb, .int .i64 (L[n]).c])) ∧ OB w' base 5 (.slice s (L[n]).b.length cb) (L[n]).b.length (L[n]).b ∧ HpB w' g0 (.cells (c.setIfInBounds f (.slice (some ⟨g, o, none⟩) n cv)) 128) ∧ EQ EN 131 w' base (.slice (some ⟨g, o, none⟩) n cv) n (L.take n) ∧ Still [g0] w w') ?_ (fun e w' k => ⟨s, cb, k⟩)
  have hOO := Lib.hid O
  clear h hp hc O
  generalize hE : L[n] = E at *
  obtain ⟨ei, eb, ec⟩ := E
  dsimp only at *
  generalize hbl : eb.length = bl at *
  replace hE := Lib.hid hE
  replace hbl := Lib.hid hbl
  replace hf := Lib.hid hf
  go_enter Try.func173, Try.ntmps173
  go_upto_region 2 with (fail)
  have B0 := Lib.hid (show BW w (w.alloc (.cells #[.int .i64 ei, .slice s bl cb, .int .i64 ec] 131)) from (BW.refl w).alloc)
  have P0 := Lib.hid (HpB.new w (.cells #[.int .i64 ei, .slice s bl cb, .int .i64 ec] 131))
  have hgx : g0 < w.heap.size := hP.out.lt
  go_upto_region 3 with (fail)
  generalize w.alloc (.cells #[.int .i64 ei, .slice s bl cb, .int .i64 ec] 131) = w2 at *
  generalize w.heap.size = gx at *
  replace hP := Lib.hid (hP.out.bw B0.out)
  replace hQ := Lib.hid (hQ.out.bw B0.out)
  replace hOO := Lib.hid (hOO.out.bw B0.out)
  have hcc2 : w2.cell? ⟨g0, f, none⟩ = some (.slice (some ⟨g, o, none⟩) (n + 1) cv) := by rw [hp_cell hP.out]; exact hf.out
  have hz2 := hp_frz hP.out f
  clear hcc hfr a0 a1 a2
  go_upto_region 4 with (fail)
  have T3 := Lib.hid (still_sc w2 g0 f (.slice (some ⟨g, o, none⟩) n cv))
  have N2 : NoB w2 g0 := .inr ⟨_, _, _, hP.out, by decide⟩
  have P3 := Lib.hid (P0.out.st T3.out (by simp; omega))
  have P4 : Hid (HpB (w2.setCell ⟨g0, f, none⟩ (.slice (some ⟨g, o, none⟩) n cv)) g0 _) := Lib.hid (hp_set hP.out f (.slice (some ⟨g, o, none⟩) n cv))
  have Q3 := Lib.hid ((hQ.out.still T3.out (fun k hk => (by simpa using hk : k = g0) ▸ N2) (fun k hk => by
    have : k = g := by simpa [Value.ownBlock] using hk.symm
    simp; omega)).takeN n (by omega))
  have O3 := Lib.hid (hOO.out.still T3.out (NoB.ob hOO.out (by simpa using N2)))
  have T4 := Lib.hid ((B0.out.still [g0]).trans T3.out)
  clear hP hQ hOO P0 B0 T3 N2 hcc2 hz2
  generalize w2.setCell ⟨g0, f, none⟩ (.slice (some ⟨g, o, none⟩) n cv) = w3 at *
  have z0 := hp_cell (P3.out) 0
  have z1 := hp_cell (P3.out) 1
  have z2 := hp_cell (P3.out) 2
  simp only [List.getElem?_toArray, List.getElem?_cons_zero, List.getElem?_cons_succ] at z0 z1 z2
  go_wp2_with fail
  go_ret
  exact ⟨rfl, O3.out, P4.out, Q3.out, T4.out⟩
end Go.Proofs.Ytcempndfbckcaaa
