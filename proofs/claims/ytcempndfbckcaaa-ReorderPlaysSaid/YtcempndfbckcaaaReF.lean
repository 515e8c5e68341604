/- Packets put into order: one put behind the queue. No condition but the sizes'. -/
import Derived.Test.YtcempndfbckcaaaReE
namespace Go.Proofs.Ytcempndfbckcaaa
open Go.RowKit

@[go_sem] theorem asEnt (v : Value) (xT : TypeId) (w : World) : (Instr.typeAssert (.iface 131 v) xT 131 false).run Try.prog w = .ok v w := by kernel_rfl
set_option maxRecDepth 100000 in
set_option maxHeartbeats 8000000 in
theorem qpush_any (base g0 f cv n : Nat) (sa : Option Addr) (c : Array Value) (L : List Ent) (E : Ent) (s : Option Addr) (cb : Nat) (hn : n ≤ 1000000) (w : World) (hb0 : base ≤ w.heap.size) (hg : (Value.slice sa n cv).ownBlock ≠ some g0) (hp : HpB w g0 (.cells c 128)) (hf : c[f]? = some (.slice sa n cv)) (h : EQ EN 131 w base (.slice sa n cv) n L) (ho : OB w base 5 (.slice s E.b.length cb) E.b.length E.b) :
    Calls Try.prog 174 #[.pointer (some ⟨g0, f, none⟩), .iface 131 (.agg #[.int .i64 E.i, .slice s E.b.length cb, .int .i64 E.c])] w fun e w' => e = .returned (.tuple #[]) ∧ ∃ sb cc, cc ≤ maxLen ∧ HpB w' g0 (.cells (c.setIfInBounds f (.slice sb (n + 1) cc)) 128) ∧ EQ EN 131 w' base (.slice sb (n + 1) cc) (n + 1) (L ++ [E]) ∧ Still (g0 :: (Value.slice sa n cv).ownBlock.toList) w w' ∧ (∀ j, (Value.slice sb (n + 1) cc).ownBlock = some j → (Value.slice sa n cv).ownBlock = some j ∨ w.heap.size ≤ j) := by
  obtain ⟨_, _, he, hnc, hcm⟩ := h.len
  cases he
  unfold maxLen at hcm
  have hcc : w.cell? ⟨g0, f, none⟩ = some (.slice sa n cv) := by rw [hp_cell hp]; exact hf
  have m0 : ∀ y : LaterS [] w, _ := fun y => y.bw.cell hcc
  have hQ := Lib.hid h
  have hP := Lib.hid hp
  have hp0 := Lib.hid hp
  have hO := Lib.hid ho
  obtain ⟨ei, eb, ec⟩ := E
  dsimp only at *
  generalize hbl : eb.length = bl at *
  clear h hp ho
  replace hbl := Lib.hid hbl
  replace hf := Lib.hid hf
  replace hg := Lib.hid hg
  replace hb0 := Lib.hid hb0
  go_enter Try.func174, Try.ntmps174
  go_upto_region 0 with (fail)
  refine wp_region_gg ((Value.slice sa n cv).ownBlock.toList) [7] [9] (by kernel_rfl) ?_
  refine hoistP (a1 := ?_) 0 rfl (by kernel_rfl) rfl (fun x => rfl) ?_ ?_
  rotate_left
  · simp only [Act.put, List.setIfInBounds_toArray, List.set_cons_succ, List.set_cons_zero]; rfl
  refine hoist [] [7] (a1 := ?_) 1 rfl (by kernel_rfl) (.inl ⟨rfl, rfl⟩) rfl rfl rfl (fun x K hK => ?_) ?_
  rotate_left
  · go_big_quiet_op
    exact hK
  refine hoist [] [7] (a1 := ?_) 2 rfl (by kernel_rfl) (.inl ⟨rfl, rfl⟩) rfl rfl rfl (fun x K hK => ?_) ?_
  rotate_left
  · go_big_quiet_op
    exact hK
  refine hoist [] [7] (a1 := ?_) 3 rfl (by kernel_rfl) (.inl ⟨rfl, rfl⟩) rfl rfl rfl (fun x K hK => ?_) ?_
  rotate_left
  · go_big_quiet_op
    exact hK
  refine hoist [] [7] (a1 := ?_) 4 rfl (by kernel_rfl) (.inl ⟨rfl, rfl⟩) rfl rfl rfl (fun x K hK => ?_) ?_
  rotate_left
  · go_big_quiet_op
    exact hK
  refine hoist [] [7] (a1 := ?_) 5 rfl (by kernel_rfl) (.inl ⟨rfl, rfl⟩) rfl rfl rfl (fun x K hK => ?_) ?_
  rotate_left
  · go_big_quiet_op
    exact hK
  refine effect 6 rfl (by kernel_rfl) (by kernel_rfl) rfl (fun x6 K hK => ?_)
  go_simp
  refine hK _ _ (Still.of_below ((Below.refl _ _).alloc (Nat.le_refl _) _)) ?_
  clear hK K
  have B6 : Hid (BW w (x6.now.alloc (.cells #[.int .i64 ei, .slice s bl cb, .int .i64 ec] 131))) := Lib.hid (x6.bw.alloc)
  have L6 := Lib.hid (Sls.new1 (E := EN) x6.now 131 [.int .i64 ei, .slice s bl cb, .int .i64 ec] rfl)
  clear m0
  generalize x6.now.alloc (.cells #[.int .i64 ei, .slice s bl cb, .int .i64 ec] 131) = w2 at *
  generalize x6.now.heap.size = gx at *
  try simp only [Act.put, List.setIfInBounds_toArray, List.set_cons_succ, List.set_cons_zero]
  refine effect 7 rfl (by kernel_rfl) (by kernel_rfl) rfl (fun x7 K hK => ?_)
  have B7 := Lib.hid (B6.out.trans x7.bw)
  have Q7 := hQ.out.bw B7.out
  have hz7 := Nat.le_trans hb0.out B7.out.size
  have R7 : EN.R x7.now base ⟨ei, eb, ec⟩ [.int .i64 ei, .slice s bl cb, .int .i64 ec] := ⟨_, rfl, by
    show OB _ _ _ _ eb.length eb
    rw [hbl.out]
    exact hO.out.bw B7.out⟩
  refine wp_apEQ slEn _ _ rfl base (.slice sa n cv) n L rfl Q7 _ rfl 1 [⟨ei, eb, ec⟩] [.int .i64 ei, .slice s bl cb, .int .i64 ec] (L6.out.bw x7.bw) (EL.single R7) rfl (by omega) hz7 (Q7.noB (by decide)) ?_
  intro sb cc w4 hcc4 hm4 Q4 T4 B4 G4
  refine hK _ _ T4 ?_
  clear hK K R7 Q7 hz7
  have P4 := Lib.hid ((hP.out.bw B7.out).st T4 (by
    intro hm
    exact hg.out (by simpa using hm)))
  replace T4 := Lib.hid ((B7.out.still (g0 :: (Value.slice sa n cv).ownBlock.toList)).trans (T4.weaken (fun k hk => List.mem_cons_of_mem _ hk)))
  replace Q4 := Lib.hid Q4
  replace G4 := Lib.hid (fun j hj => (G4 j hj).imp_right (Nat.le_trans B7.out.size))
  clear B4 B7 B6 L6
  try simp only [Act.put, List.setIfInBounds_toArray, List.set_cons_succ, List.set_cons_zero]
  refine hoist [] [7] (a1 := ?_) 8 rfl (by kernel_rfl) (.inl ⟨rfl, rfl⟩) rfl rfl rfl (fun x K hK => ?_) ?_
  rotate_left
  · go_big_quiet_op
    exact hK
  refine tail 9 rfl (by kernel_rfl) rfl (fun xr => ?_)
  simp only [List.drop_succ_cons, List.drop_zero]
  have P5 := Lib.hid (P4.out.bw xr.bw)
  have Q5 := Lib.hid (Q4.out.bw xr.bw)
  have T5 := Lib.hid (T4.out.trans (xr.bw.still (g0 :: (Value.slice sa n cv).ownBlock.toList)))
  clear P4 Q4 T4 hP hQ hO
  generalize xr.now = w5 at *
  have hcc5 : w5.cell? ⟨g0, f, none⟩ = some (.slice sa n cv) := by rw [hp_cell P5.out]; exact hf.out
  have hz5 := hp_frz P5.out f
  have T6 := Lib.hid (still_sc w5 g0 f (.slice sb (n + 1) cc))
  have P6 : Hid (HpB (w5.setCell ⟨g0, f, none⟩ (.slice sb (n + 1) cc)) g0 _) := Lib.hid (hp_set P5.out f (.slice sb (n + 1) cc))
  have N5 : NoB w5 g0 := .inr ⟨_, _, _, P5.out, by decide⟩
  have hlt := P5.out.lt
  have Q6 := Lib.hid (Q5.out.still T6.out (fun k hk => (by simpa using hk : k = g0) ▸ N5) (fun k hk hm => by
    obtain rfl : k = g0 := by simpa using hm
    rcases G4.out _ hk with h1 | h1
    · exact hg.out h1
    · exact absurd hp0.out.lt (by omega)))
  have T7 := Lib.hid (T5.out.trans (T6.out.weaken (fun k hk => by
    obtain rfl : k = g0 := by simpa using hk
    exact List.mem_cons_self)))
  clear T6 T5 P5 Q5 N5 hlt
  go_wp2_with fail
  go_end0
  exact ⟨rfl, sb, cc, hm4, P6.out, Q6.out, T7.out, G4.out⟩
end Go.Proofs.Ytcempndfbckcaaa
