/- A step's changes: one more. No condition but the sizes'. -/
import Derived.Test.YtebeifkgjhgmeaaRmB
import Derived.Test.YtebeifkgjhgmeaaSwh
namespace Go.Proofs.Ytebeifkgjhgmeaa
open Go.RowKit
structure Chg where
 kd : Int
 st : Int
 x : Sbs
def chV (c : Chg) : List Value := [.int .i64 c.kd, .int .i64 c.st, .int .i64 c.x.o, .int .i64 c.x.t, .int .i64 c.x.l, .int .u32 (c.x.s : Nat)]
def ECh : Elt Chg := pureE 6 chV (by decide) (fun _ => rfl) (fun r u hu => by simp only [chV, List.mem_cons, List.not_mem_nil, or_false] at hu; rcases hu with rfl | rfl | rfl | rfl | rfl | rfl <;> rfl)
theorem slCh : SlTy Try.prog 33 89 6 48 := SlTy.mk' Try.underlying33 (by kernel_rfl) (by decide)
theorem swSb : SwT 50 4 := ⟨⟨_, Try.underlying50, rfl, rfl⟩, by kernel_rfl⟩
set_option maxRecDepth 100000 in
set_option maxHeartbeats 8000000 in
theorem changed_one (gs gh gx base : Nat) (kd st nn rm tr ow ly : Int) (sf : Option Addr) (nf cf : Nat) (gl ol : Nat) (sc : Option Addr) (nc cc : Nat) (C : List Chg) (kc stc : Int) (u : Sbs) (hn : nc ≤ 1000000) (w : World) (hb0 : base ≤ w.heap.size) (h : HpB w gs (.cells (stC gh kd st nn rm tr ow ly sf nf cf gl ol (.slice sc nc cc)) 73)) (hx : HpB w gx (.cells (sbA u) 50)) (hq : EQ ECh 89 w base (.slice sc nc cc) nc C) :
  Calls Try.prog 37 #[.pointer (some ⟨gs, 0, none⟩), .int .i64 kc, .int .i64 stc, .slice (some ⟨gx, 0, none⟩) 1 1] w fun e w' => e = .returned (.tuple #[]) ∧ ∃ s' c', HpB w' gs (.cells (stC gh kd st nn rm tr ow ly sf nf cf gl ol (.slice s' (nc + 1) c')) 73) ∧ EQ ECh 89 w' base (.slice s' (nc + 1) c') (nc + 1) (C ++ [⟨kc, stc, u⟩]) ∧ Still (gs :: (Value.slice sc nc cc).ownBlock.toList) w w' ∧ (∀ j, (Value.slice s' (nc + 1) c').ownBlock = some j → (Value.slice sc nc cc).ownBlock = some j ∨ w.heap.size ≤ j) := by
 obtain ⟨_, _, he, hnc, hcm⟩ := hq.len
 cases he
 unfold maxLen at hcm
 have hS := Lib.hid h
 have hX := Lib.hid hx
 have hQ := Lib.hid hq
 have hb := Lib.hid hb0
 have hgs : (Value.slice sc nc cc).ownBlock ≠ some gs := fun e => hq.ne h (by decide) _ e rfl
 clear h hx hq
 replace hgs := Lib.hid hgs
 go_enter Try.func37, Try.ntmps37
 go_upto_region 1 with (fail)
 go_loopg [12] 1 (fun m' i wx => ∃ (k : Nat) (s1 : Option Addr) (c1 : Nat), m' = 1 - k ∧ k ≤ 1 ∧ i = .int .i64 (k : Nat) ∧ Hid (HpB wx gs (.cells (stC gh kd st nn rm tr ow ly sf nf cf gl ol (.slice s1 (nc + k) c1)) 73)) ∧ Hid (EQ ECh 89 wx base (.slice s1 (nc + k) c1) (nc + k) (C ++ (if k = 0 then [] else [⟨kc, stc, u⟩]))) ∧ Hid (Still (gs :: (Value.slice sc nc cc).ownBlock.toList) w wx) ∧ Hid (∀ j, (Value.slice s1 (nc + k) c1).ownBlock = some j → (Value.slice sc nc cc).ownBlock = some j ∨ w.heap.size ≤ j) ∧ Hid (k = 0 → s1 = sc ∧ c1 = cc ∧ wx = w))
 case atStart => exact ⟨0, sc, cc, by omega, by omega, rfl, hS, by simpa using hQ, Still.refl _ _, fun j hj => .inl hj, fun _ => ⟨rfl, rfl, rfl⟩⟩
 case round =>
  obtain ⟨k, s1, c1, rfl, hk, rfl, S, Q, T, G, hz⟩ := hrel
  obtain rfl | rfl : k = 0 ∨ k = 1 := by omega
  ·obtain ⟨rfl, rfl, rfl⟩ := hz.out rfl
   clear hz S Q T G
   have BA : BW wr (wr.alloc (.cells (sbA u) 50)) := (BW.refl wr).alloc
   have Y1 := Lib.hid (HpB.new wr (.cells (sbA u) 50))
   have S1 := Lib.hid (hS.out.bw BA)
   have Q1 := Lib.hid (hQ.out.bw BA)
   have B1 := Lib.hid BA
   have hR := Lib.hid (hX.out.range 0 (sbA u).toList rfl)
   clear BA
   go_upto_region 3 with (first | (refine swLdC swSb rfl rfl rfl hR.out rfl ?_) | (refine swStN swSb rfl rfl rfl rfl rfl rfl (by kernel_rfl) ?_))
   generalize wr.alloc _ = w1 at *
   generalize hgy : wr.heap.size = gy at *
   have z10 := (hp_cell S1.out 10).trans (show _ = some (.slice s1 nc c1) from rfl)
   have m10 : ∀ y : LaterS [] w1, _ := fun y => y.bw.cell z10
   clear z10
   replace hgy := Lib.hid hgy
   try simp only [Act.put, List.setIfInBounds_toArray, List.set_cons_succ, List.set_cons_zero]
   refine wp_region_gg ((Value.slice s1 nc c1).ownBlock.toList) [10] [11] (by kernel_rfl) ?_
   refine hoist ((Value.slice s1 nc c1).ownBlock.toList) [] (a1 := ?_) 0 rfl (by kernel_rfl) (.inr rfl) rfl rfl rfl (fun x K hK => ?_) ?_
   rotate_left
   ·go_big_quiet_op
    exact hK
   refine hoist [] [10] (a1 := ?_) 1 rfl (by kernel_rfl) (.inl ⟨rfl, rfl⟩) rfl rfl rfl (fun x K hK => ?_) ?_
   rotate_left
   ·go_big_quiet_op
    exact hK
   refine hoist [] [10] (a1 := ?_) 2 rfl (by kernel_rfl) (.inl ⟨rfl, rfl⟩) rfl rfl rfl (fun x K hK => ?_) ?_
   rotate_left
   ·go_big_quiet_op
    exact hK
   refine hoist [] [10] (a1 := ?_) 3 rfl (by kernel_rfl) (.inl ⟨rfl, rfl⟩) rfl rfl rfl (fun x K hK => ?_) ?_
   rotate_left
   ·go_big_quiet_op
    exact hK
   refine hoist [] [10] (a1 := ?_) 4 rfl (by kernel_rfl) (.inl ⟨rfl, rfl⟩) rfl rfl rfl (fun x K hK => ?_) ?_
   rotate_left
   ·go_big_quiet_op
    exact hK
   refine hoist [] [10] (a1 := ?_) 5 rfl (by kernel_rfl) (.inl ⟨rfl, rfl⟩) rfl rfl rfl (fun x K hK => ?_) ?_
   rotate_left
   ·go_big_quiet_op
    exact hK
   refine hoist [] [10] (a1 := ?_) 6 rfl (by kernel_rfl) (.inl ⟨rfl, rfl⟩) rfl rfl rfl (fun x K hK => ?_) ?_
   rotate_left
   ·go_big_quiet_op
    exact hK
   refine hoist [] [10] (a1 := ?_) 7 rfl (by kernel_rfl) (.inl ⟨rfl, rfl⟩) rfl rfl rfl (fun x K hK => ?_) ?_
   rotate_left
   ·refine swQl swSb (l := [.int .i64 u.o, .int .i64 u.t, .int .i64 u.l, .int .u32 (u.s : Nat)]) rfl (by rfl) rfl (fun w' hw => by subst hw; exact (Y1.out.bw x.bw).range 0 _ rfl) (by simp only [Act.put, List.setIfInBounds_toArray, List.set_cons_succ, List.set_cons_zero]; rfl) ?_
    exact hK
   refine hoist [] [10] (a1 := ?_) 8 rfl (by kernel_rfl) (.inl ⟨rfl, rfl⟩) rfl rfl rfl (fun x K hK => ?_) ?_
   rotate_left
   ·go_big_quiet_op
    exact hK
   refine effect 9 rfl (by kernel_rfl) (by kernel_rfl) rfl (fun x9 K hK => ?_)
   go_simp
   refine hK _ _ (Still.of_below ((Below.refl _ _).alloc (Nat.le_refl _) _)) ?_
   clear hK K m10
   have B6 := Lib.hid (x9.bw.alloc (o := .cells #[.int .i64 kc, .int .i64 stc, .int .i64 u.o, .int .i64 u.t, .int .i64 u.l, .int .u32 (u.s : Nat)] 89))
   have L6 := Lib.hid (Sls.new1 (E := ECh) x9.now 89 (chV ⟨kc, stc, u⟩) rfl)
   have L6 : Hid (Sls (x9.now.alloc (.cells #[.int .i64 kc, .int .i64 stc, .int .i64 u.o, .int .i64 u.t, .int .i64 u.l, .int .u32 (u.s : Nat)] 89)) ECh.size (.slice (some ⟨x9.now.heap.size, 0, none⟩) 1 1) 1 (chV ⟨kc, stc, u⟩)) := L6
   generalize x9.now.alloc (.cells #[.int .i64 kc, .int .i64 stc, .int .i64 u.o, .int .i64 u.t, .int .i64 u.l, .int .u32 (u.s : Nat)] 89) = w2 at *
   generalize x9.now.heap.size = gz at *
   try simp only [Act.put, List.setIfInBounds_toArray, List.set_cons_succ, List.set_cons_zero]
   refine effect 10 rfl (by kernel_rfl) (by kernel_rfl) rfl (fun x10 K hK => ?_)
   have B7 := Lib.hid (B1.out.trans (B6.out.trans x10.bw))
   have Q7 := Q1.out.bw (B6.out.trans x10.bw)
   have S7 := S1.out.bw (B6.out.trans x10.bw)
   refine wp_apEQ slCh _ _ rfl base (.slice s1 nc c1) nc C rfl Q7 _ rfl 1 [⟨kc, stc, u⟩] (chV ⟨kc, stc, u⟩) (L6.out.bw x10.bw) (EL.single rfl) rfl (by omega) (by have := B7.out.size; have := hb.out; have := hgy.out; omega) (fun _ _ => trivial) ?_
   intro s4 c4 w4 hc4 hm4 Q4 T4 B4 G4
   refine hK _ _ T4 ?_
   clear hK K Q7
   have S4 := Lib.hid (S7.st T4 (by
    intro hm
    exact hgs.out (by simpa using hm)))
   replace T4 := Lib.hid ((B7.out.still (gs :: (Value.slice s1 nc c1).ownBlock.toList)).trans (T4.weaken (fun k hk => List.mem_cons_of_mem _ hk)))
   replace Q4 := Lib.hid Q4
   replace G4 := Lib.hid (fun j hj => (G4 j hj).imp_right (Nat.le_trans B7.out.size))
   clear B4 B7 B6 L6 S7
   try simp only [Act.put, List.setIfInBounds_toArray, List.set_cons_succ, List.set_cons_zero]
   refine tail 11 rfl (by kernel_rfl) rfl (fun xr => ?_)
   simp only [List.drop_succ_cons, List.drop_zero]
   have S5 := Lib.hid (S4.out.bw xr.bw)
   have Q5 := Lib.hid (Q4.out.bw xr.bw)
   have T5 := Lib.hid (T4.out.trans (xr.bw.still (gs :: (Value.slice s1 nc c1).ownBlock.toList)))
   clear S4 Q4 T4 S1 Q1 Y1 B1 hR
   generalize xr.now = w5 at *
   have z10 := (hp_cell S5.out 10).trans (show _ = some (.slice s1 nc c1) from rfl)
   have y10 := hp_frz S5.out 10
   have T6 := Lib.hid (still_sc w5 gs 10 (.slice s4 (nc + 1) c4))
   have S6 : Hid (HpB (w5.setCell ⟨gs, 10, none⟩ (.slice s4 (nc + 1) c4)) gs (.cells (stC gh kd st nn rm tr ow ly sf nf cf gl ol (.slice s4 (nc + 1) c4)) 73)) := Lib.hid (hp_set S5.out 10 (.slice s4 (nc + 1) c4))
   have Q6 := Lib.hid (Q5.out.still T6.out (fun _ _ => trivial) (fun k hk hm => by
    obtain rfl : k = gs := by simpa using hm
    exact Q5.out.ne S5.out (by decide) _ hk rfl))
   have T7 := Lib.hid (T5.out.trans (T6.out.weaken (fun k hk => by
    obtain rfl : k = gs := by simpa using hk
    exact List.mem_cons_self)))
   clear T6 T5 S5 Q5
   go_wp2_with fail
   go_roundg 0
   case measure => omega
   case rel => exact ⟨1, s4, c4, by omega, by omega, rfl, S6, by simpa using Q6, T7, Lib.hid (fun j hj => by have h9 := G4.out j hj; rw [hgy.out] at h9; exact h9), fun e => by cases e⟩
  ·clear hz
   go_wp2_with fail
   go_end0
   exact ⟨rfl, s1, c1, S.out, by simpa using Q.out, T.out, G.out⟩
end Go.Proofs.Ytebeifkgjhgmeaa
