/- The table of tasks: one taken off the queue, one put behind it. No condition but the sizes'. -/
import Derived.Test.YtcempndfbckcaaaSeD
namespace Go.Proofs.Ytcempndfbckcaaa
open Go.RowKit

theorem still_st4 (w : World) (z : Nat) (v0 v1 v2 v3 : Value) : Still [z] w ((((w.setCell ⟨z, 0, none⟩ v0).setCell ⟨z, 1, none⟩ v1).setCell ⟨z, 2, none⟩ v2).setCell ⟨z, 3, none⟩ v3) := ((((still_sc w z 0 v0).trans (still_sc _ z 1 v1)).trans (still_sc _ z 2 v2)).trans (still_sc _ z 3 v3))
theorem st4_arr (c : Array Value) (hc : c.size = 4) (v0 v1 v2 v3 : Value) : ((((c.setIfInBounds 0 v0).setIfInBounds 1 v1).setIfInBounds 2 v2).setIfInBounds 3 v3) = #[v0, v1, v2, v3] := by
  obtain ⟨l⟩ := c
  match l, hc with
  | [_, _, _, _], _ => simp only [List.setIfInBounds_toArray, List.set_cons_zero, List.set_cons_succ]
theorem HpB.st4 {w : World} {z : Nat} {c : Array Value} {T : TypeId} (h : HpB w z (.cells c T)) (hc : c.size = 4) (v0 v1 v2 v3 : Value) : HpB ((((w.setCell ⟨z, 0, none⟩ v0).setCell ⟨z, 1, none⟩ v1).setCell ⟨z, 2, none⟩ v2).setCell ⟨z, 3, none⟩ v3) z (.cells #[v0, v1, v2, v3] T) := by
  have k := (hp_set (hp_set (hp_set (hp_set h 0 v0) 1 v1) 2 v2) 3 v3)
  rw [st4_arr c hc] at k
  exact k
def tkC (E : Tk) : Array Value := #[.int .i64 E.n, .int .i64 E.t, .int .i64 E.p, .string E.s]
set_option maxRecDepth 100000 in
set_option maxHeartbeats 8000000 in
theorem tqpop_any (base g0 f g o cv n : Nat) (c : Array Value) (L : List Tk) (hL : n < L.length) (w : World) (hg : g0 ≠ g) (hp : HpB w g0 (.cells c 141)) (hf : c[f]? = some (.slice (some ⟨g, o, none⟩) (n + 1) cv)) (h : EQ TN 144 w base (.slice (some ⟨g, o, none⟩) (n + 1) cv) (n + 1) L) :
    Calls Try.prog 183 #[.pointer (some ⟨g0, f, none⟩)] w fun e w' => e = .returned (.iface 144 (.agg (tkC L[n]))) ∧ HpB w' g0 (.cells (c.setIfInBounds f (.slice (some ⟨g, o, none⟩) n cv)) 141) ∧ EQ TN 144 w' base (.slice (some ⟨g, o, none⟩) n cv) n (L.take n) ∧ Still [g0] w w' := by
  obtain ⟨_, _, he, hnc, hcm⟩ := h.len
  cases he
  unfold maxLen at hcm
  have hl := h.1
  obtain ⟨g', o', he, hgb, hc⟩ := tn_form h (by omega)
  cases he
  obtain ⟨a0, a1, a2, a3, -⟩ := hc n hL
  have hcc : w.cell? ⟨g0, f, none⟩ = some (.slice (some ⟨g, o, none⟩) (n + 1) cv) := by rw [hp_cell hp]; exact hf
  have hQ := Lib.hid h
  have hfr := h.frz (by omega) (o + n * 4)
  have hP := Lib.hid hp
  clear h hp hc
  generalize hE : L[n] = E at *
  obtain ⟨en, et, ep, es⟩ := E
  unfold tkC
  dsimp only at *
  replace hE := Lib.hid hE
  replace hf := Lib.hid hf
  go_enter Try.func183, Try.ntmps183
  go_upto_region 2 with (fail)
  have B0 := Lib.hid (show BW w (w.alloc (.cells #[.int .i64 en, .int .i64 et, .int .i64 ep, .string es] 144)) from (BW.refl w).alloc)
  have P0 := Lib.hid (HpB.new w (.cells #[.int .i64 en, .int .i64 et, .int .i64 ep, .string es] 144))
  have hgx : g0 < w.heap.size := hP.out.lt
  go_upto_region 3 with (fail)
  generalize w.alloc (.cells #[.int .i64 en, .int .i64 et, .int .i64 ep, .string es] 144) = w2 at *
  generalize w.heap.size = gx at *
  replace hP := Lib.hid (hP.out.bw B0.out)
  replace hQ := Lib.hid (hQ.out.bw B0.out)
  have hcc2 : w2.cell? ⟨g0, f, none⟩ = some (.slice (some ⟨g, o, none⟩) (n + 1) cv) := by rw [hp_cell hP.out]; exact hf.out
  have hz2 := hp_frz hP.out f
  clear hcc hfr a0 a1 a2 a3
  go_upto_region 4 with (fail)
  have T3 := Lib.hid (still_sc w2 g0 f (.slice (some ⟨g, o, none⟩) n cv))
  have P3 := Lib.hid (P0.out.st T3.out (by simp; omega))
  have P4 : Hid (HpB (w2.setCell ⟨g0, f, none⟩ (.slice (some ⟨g, o, none⟩) n cv)) g0 _) := Lib.hid (hp_set hP.out f (.slice (some ⟨g, o, none⟩) n cv))
  have Q3 := Lib.hid ((hQ.out.still T3.out (fun _ _ => trivial) (fun k hk => by
    have : k = g := by simpa [Value.ownBlock] using hk.symm
    simp; omega)).takeN n (by omega))
  have T4 := Lib.hid ((B0.out.still [g0]).trans T3.out)
  clear hP hQ P0 B0 T3 hcc2 hz2
  generalize w2.setCell ⟨g0, f, none⟩ (.slice (some ⟨g, o, none⟩) n cv) = w3 at *
  have z0 := hp_cell (P3.out) 0
  have z1 := hp_cell (P3.out) 1
  have z2 := hp_cell (P3.out) 2
  have z3 := hp_cell (P3.out) 3
  simp only [List.getElem?_toArray, List.getElem?_cons_zero, List.getElem?_cons_succ] at z0 z1 z2 z3
  go_wp2_with fail
  go_ret
  exact ⟨rfl, P4.out, Q3.out, T4.out⟩
@[go_sem] theorem asTk (v : Value) (xT : TypeId) (w : World) : (Instr.typeAssert (.iface 144 v) xT 144 false).run Try.prog w = .ok v w := by kernel_rfl
set_option maxRecDepth 100000 in
set_option maxHeartbeats 8000000 in
theorem tqpush_any (base g0 f cv n : Nat) (sa : Option Addr) (c : Array Value) (L : List Tk) (E : Tk) (hn : n ≤ 1000000) (w : World) (hb0 : base ≤ w.heap.size) (hg : (Value.slice sa n cv).ownBlock ≠ some g0) (hp : HpB w g0 (.cells c 141)) (hf : c[f]? = some (.slice sa n cv)) (h : EQ TN 144 w base (.slice sa n cv) n L) (ho : 0 ≤ E.n ∧ E.n ≤ 9223372036854775807) :
    Calls Try.prog 184 #[.pointer (some ⟨g0, f, none⟩), .iface 144 (.agg (tkC E))] w fun e w' => e = .returned (.tuple #[]) ∧ ∃ sb cc, cc ≤ maxLen ∧ HpB w' g0 (.cells (c.setIfInBounds f (.slice sb (n + 1) cc)) 141) ∧ EQ TN 144 w' base (.slice sb (n + 1) cc) (n + 1) (L ++ [E]) ∧ Still (g0 :: (Value.slice sa n cv).ownBlock.toList) w w' ∧ (∀ j, (Value.slice sb (n + 1) cc).ownBlock = some j → (Value.slice sa n cv).ownBlock = some j ∨ w.heap.size ≤ j) := by
  obtain ⟨_, _, he, hnc, hcm⟩ := h.len
  cases he
  unfold maxLen at hcm
  have hcc : w.cell? ⟨g0, f, none⟩ = some (.slice sa n cv) := by rw [hp_cell hp]; exact hf
  have m0 : ∀ y : LaterS [] w, _ := fun y => y.bw.cell hcc
  have hQ := Lib.hid h
  have hP := Lib.hid hp
  have hp0 := Lib.hid hp
  have hO := Lib.hid ho
  obtain ⟨en, et, ep, es⟩ := E
  unfold tkC
  dsimp only at *
  clear h hp ho
  replace hf := Lib.hid hf
  replace hg := Lib.hid hg
  replace hb0 := Lib.hid hb0
  go_enter Try.func184, Try.ntmps184
  go_upto_region 0 with (fail)
  refine wp_region_gg ((Value.slice sa n cv).ownBlock.toList) [7] [9] (by kernel_rfl) ?_
  refine hoistP (a1 := ?_) 0 rfl (by kernel_rfl) rfl (fun x => rfl) ?_ ?_
  rotate_left
  · simp only [Act.put, List.setIfInBounds_toArray, List.set_cons_succ, List.set_cons_zero]; rfl
  refine hoist [] [7] (a1 := ?_) 1 rfl (by kernel_rfl) (.inl ⟨rfl, rfl⟩) rfl rfl rfl (fun x K hK => ?_) ?_
  rotate_left
  · go_big_quiet_op
    exact hK
  refine hoist [] [7] (a1 := ?_) 2 rfl (by kernel_rfl) (.inl ⟨rfl, rfl⟩) rfl rfl rfl (fun x K hK => ?_) ?_
  rotate_left
  · go_big_quiet_op
    exact hK
  refine hoist [] [7] (a1 := ?_) 3 rfl (by kernel_rfl) (.inl ⟨rfl, rfl⟩) rfl rfl rfl (fun x K hK => ?_) ?_
  rotate_left
  · go_big_quiet_op
    exact hK
  refine hoist [] [7] (a1 := ?_) 4 rfl (by kernel_rfl) (.inl ⟨rfl, rfl⟩) rfl rfl rfl (fun x K hK => ?_) ?_
  rotate_left
  · go_big_quiet_op
    exact hK
  refine hoist [] [7] (a1 := ?_) 5 rfl (by kernel_rfl) (.inl ⟨rfl, rfl⟩) rfl rfl rfl (fun x K hK => ?_) ?_
  rotate_left
  · go_big_quiet_op
    exact hK
  refine effect 6 rfl (by kernel_rfl) (by kernel_rfl) rfl (fun x6 K hK => ?_)
  go_simp
  refine hK _ _ (Still.of_below ((Below.refl _ _).alloc (Nat.le_refl _) _)) ?_
  clear hK K
  have B6 : Hid (BW w (x6.now.alloc (.cells #[.int .i64 en, .int .i64 et, .int .i64 ep, .string es] 144))) := Lib.hid (x6.bw.alloc)
  have L6 := Lib.hid (Sls.new1 (E := TN) x6.now 144 [.int .i64 en, .int .i64 et, .int .i64 ep, .string es] rfl)
  clear m0
  generalize x6.now.alloc (.cells #[.int .i64 en, .int .i64 et, .int .i64 ep, .string es] 144) = w2 at *
  generalize x6.now.heap.size = gx at *
  try simp only [Act.put, List.setIfInBounds_toArray, List.set_cons_succ, List.set_cons_zero]
  refine effect 7 rfl (by kernel_rfl) (by kernel_rfl) rfl (fun x7 K hK => ?_)
  have B7 := Lib.hid (B6.out.trans x7.bw)
  have Q7 := hQ.out.bw B7.out
  have hz7 := Nat.le_trans hb0.out B7.out.size
  have R7 : TN.R x7.now base ⟨en, et, ep, es⟩ [.int .i64 en, .int .i64 et, .int .i64 ep, .string es] := ⟨rfl, hO.out⟩
  refine wp_apEQ slTk _ _ rfl base (.slice sa n cv) n L rfl Q7 _ rfl 1 [⟨en, et, ep, es⟩] [.int .i64 en, .int .i64 et, .int .i64 ep, .string es] (L6.out.bw x7.bw) (EL.single R7) rfl (by omega) hz7 (fun _ _ => trivial) ?_
  intro sb cc w4 hcc4 hm4 Q4 T4 B4 G4
  refine hK _ _ T4 ?_
  clear hK K R7 Q7 hz7
  have P4 := Lib.hid ((hP.out.bw B7.out).st T4 (by
    intro hm
    exact hg.out (by simpa using hm)))
  replace T4 := Lib.hid ((B7.out.still (g0 :: (Value.slice sa n cv).ownBlock.toList)).trans (T4.weaken (fun k hk => List.mem_cons_of_mem _ hk)))
  replace Q4 := Lib.hid Q4
  replace G4 := Lib.hid (fun j hj => (G4 j hj).imp_right (Nat.le_trans B7.out.size))
  clear B4 B7 B6 L6
  try simp only [Act.put, List.setIfInBounds_toArray, List.set_cons_succ, List.set_cons_zero]
  refine hoist [] [7] (a1 := ?_) 8 rfl (by kernel_rfl) (.inl ⟨rfl, rfl⟩) rfl rfl rfl (fun x K hK => ?_) ?_
  rotate_left
  · go_big_quiet_op
    exact hK
  refine tail 9 rfl (by kernel_rfl) rfl (fun xr => ?_)
  simp only [List.drop_succ_cons, List.drop_zero]
  have P5 := Lib.hid (P4.out.bw xr.bw)
  have Q5 := Lib.hid (Q4.out.bw xr.bw)
  have T5 := Lib.hid (T4.out.trans (xr.bw.still (g0 :: (Value.slice sa n cv).ownBlock.toList)))
  clear P4 Q4 T4 hP hQ hO
  generalize xr.now = w5 at *
  have hcc5 : w5.cell? ⟨g0, f, none⟩ = some (.slice sa n cv) := by rw [hp_cell P5.out]; exact hf.out
  have hz5 := hp_frz P5.out f
  have T6 := Lib.hid (still_sc w5 g0 f (.slice sb (n + 1) cc))
  have P6 : Hid (HpB (w5.setCell ⟨g0, f, none⟩ (.slice sb (n + 1) cc)) g0 _) := Lib.hid (hp_set P5.out f (.slice sb (n + 1) cc))
  have hlt := P5.out.lt
  have Q6 := Lib.hid (Q5.out.still T6.out (fun _ _ => trivial) (fun k hk hm => by
    obtain rfl : k = g0 := by simpa using hm
    rcases G4.out _ hk with h1 | h1
    · exact hg.out h1
    · exact absurd hp0.out.lt (by omega)))
  have T7 := Lib.hid (T5.out.trans (T6.out.weaken (fun k hk => by
    obtain rfl : k = g0 := by simpa using hk
    exact List.mem_cons_self)))
  clear T6 T5 P5 Q5 hlt
  go_wp2_with fail
  go_end0
  exact ⟨rfl, sb, cc, hm4, P6.out, Q6.out, T7.out, G4.out⟩
end Go.Proofs.Ytcempndfbckcaaa
