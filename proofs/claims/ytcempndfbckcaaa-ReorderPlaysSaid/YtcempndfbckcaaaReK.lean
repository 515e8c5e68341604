/- Packets put into order: late. No condition but the sizes'. -/
import Derived.Test.YtcempndfbckcaaaReJ
namespace Go.Proofs.Ytcempndfbckcaaa
open Go.RowKit

theorem enterLate (args : Array Value) (w : World) : (callFunc 104 args).run Try.prog w = .ok (.enter 104 args) w := by kernel_rfl
def lateL (many tick wait : Int) (L : List Ent) : Bool := decide (many < (L.length : Nat)) || L.any (lateE tick wait)
set_option maxRecDepth 100000 in
set_option maxHeartbeats 8000000 in
theorem late_any (base g0 n : Nat) (v : Value) (many wait next passed dropped tick : Int) (L : List Ent) (hn : n ≤ 1000000) (w : World) (hp : HpB w g0 (.cells (bufC many wait next v passed dropped) 128)) (h : EQ EN 131 w base v n L) (hE : ∀ E ∈ L, -2305843009213693952 ≤ tick - E.c ∧ tick - E.c ≤ 4611686018427387904) :
    Calls Try.prog 77 #[.pointer (some ⟨g0, 0, none⟩), .int .i64 tick] w fun e w' => e = .returned (.bool (lateL many tick wait L)) ∧ BW w w' := by
  have hmf : ∀ (fn : Fn) (first cap : Array Value) (w : World), (Instr.makeFunc fn first cap).run Try.prog w = .ok (.func fn first cap) w := fun _ _ _ _ => rfl
  obtain ⟨sa, cap, rfl, hnc, hcm⟩ := h.len
  unfold maxLen at hcm
  have hl := h.1
  have q : lateL many tick wait L = (decide (many < (n : Nat)) || L.any (lateE tick wait)) := by rw [← hl]; rfl
  have B2 : BW w ((w.alloc (.cells #[.pointer (some ⟨g0, 0, none⟩)] 62)).alloc (.cells #[.int .i64 tick] 2)) := (BW.refl w).alloc.alloc
  obtain ⟨bx, hbx⟩ : ∃ bx, bx = w.heap.size := ⟨_, rfl⟩
  have X1 := (HpB.new w (.cells #[.pointer (some ⟨g0, 0, none⟩)] 62)).bw (b := (w.alloc (.cells #[.pointer (some ⟨g0, 0, none⟩)] 62)).alloc (.cells #[.int .i64 tick] 2)) (BW.refl _).alloc
  have X2 : HpB ((w.alloc (.cells #[.pointer (some ⟨g0, 0, none⟩)] 62)).alloc (.cells #[.int .i64 tick] 2)) (w.heap.size + 1) (.cells #[.int .i64 tick] 2) := by simpa using HpB.new (w.alloc (.cells #[.pointer (some ⟨g0, 0, none⟩)] 62)) (.cells #[.int .i64 tick] 2)
  replace q := Lib.hid q
  replace B2 := Lib.hid B2
  replace X1 := Lib.hid X1
  replace X2 := Lib.hid X2
  go_enter Try.func77, Try.ntmps77
  go_upto_region 1 with (fail)
  rw [hbx] at *
  generalize w.heap.size + 1 = bt at *
  generalize (w.alloc (.cells #[.pointer (some ⟨g0, 0, none⟩)] 62)).alloc (.cells #[.int .i64 tick] 2) = w1 at *
  generalize w.heap.size = bx at *
  have P1 := Lib.hid (hp.bw B2.out)
  have Q1 := Lib.hid (h.bw B2.out)
  have m0 : ∀ y : LaterS [] w1, y.now.cell? ⟨bx, 0, none⟩ = some (.pointer (some ⟨g0, 0, none⟩)) := fun y => y.bw.cell ((hp_cell X1.out 0).trans rfl)
  have m1 : ∀ y : LaterS [] w1, y.now.cell? ⟨g0, 3, none⟩ = some (.slice sa n cap) := fun y => y.bw.cell ((hp_cell P1.out 3).trans rfl)
  have m2 : ∀ y : LaterS [] w1, y.now.cell? ⟨g0, 0, none⟩ = some (.int .i64 many) := fun y => y.bw.cell ((hp_cell P1.out 0).trans rfl)
  clear hp h
  by_cases hm : many < (n : Nat)
  · have d : decide (many < (n : Nat)) = true := decide_eq_true hm
    rw [d] at q
    refine wp_region_gg [] [] [] (by kernel_rfl) ?_
    refine hoist [] [] (a1 := ?_) 0 rfl (by kernel_rfl) (.inl ⟨rfl, rfl⟩) rfl rfl rfl (fun x K hK => ?_) ?_
    rotate_left
    · go_big_quiet_op
      exact hK
    refine hoist [] [] (a1 := ?_) 1 rfl (by kernel_rfl) (.inl ⟨rfl, rfl⟩) rfl rfl rfl (fun x K hK => ?_) ?_
    rotate_left
    · go_big_quiet_op
      exact hK
    refine hoist [] [] (a1 := ?_) 2 rfl (by kernel_rfl) (.inl ⟨rfl, rfl⟩) rfl rfl rfl (fun x K hK => ?_) ?_
    rotate_left
    · go_big_quiet_op
      exact hK
    refine hoist [] [] (a1 := ?_) 3 rfl (by kernel_rfl) (.inl ⟨rfl, rfl⟩) rfl rfl rfl (fun x K hK => ?_) ?_
    rotate_left
    · go_big_quiet_op
      exact hK
    refine hoist [] [] (a1 := ?_) 4 rfl (by kernel_rfl) (.inl ⟨rfl, rfl⟩) rfl rfl rfl (fun x K hK => ?_) ?_
    rotate_left
    · go_big_quiet_op
      exact hK
    refine hoist [] [] (a1 := ?_) 5 rfl (by kernel_rfl) (.inl ⟨rfl, rfl⟩) rfl rfl rfl (fun x K hK => ?_) ?_
    rotate_left
    · go_big_quiet_op
      exact hK
    refine hoist [] [] (a1 := ?_) 6 rfl (by kernel_rfl) (.inl ⟨rfl, rfl⟩) rfl rfl rfl (fun x K hK => ?_) ?_
    rotate_left
    · go_big_quiet_op
      exact hK
    refine hoist [] [] (a1 := ?_) 7 rfl (by kernel_rfl) (.inl ⟨rfl, rfl⟩) rfl rfl rfl (fun x K hK => ?_) ?_
    rotate_left
    · go_big_quiet_op
      exact hK
    refine hoist [] [] (a1 := ?_) 8 rfl (by kernel_rfl) (.inl ⟨rfl, rfl⟩) rfl rfl rfl (fun x K hK => ?_) ?_
    rotate_left
    · go_big_quiet_op
      exact hK
    refine hoist [] [] (a1 := ?_) 9 rfl (by kernel_rfl) (.inl ⟨rfl, rfl⟩) rfl rfl rfl (fun x K hK => ?_) ?_
    rotate_left
    · go_big_quiet_op
      exact hK
    refine hoist [] [] (a1 := ?_) 10 rfl (by kernel_rfl) (.inl ⟨rfl, rfl⟩) rfl rfl rfl (fun x K hK => ?_) ?_
    rotate_left
    · go_big_quiet_op
      exact hK
    refine hoist_skip [] [] 11 rfl (by kernel_rfl) (.inl ⟨rfl, rfl⟩) rfl (a1 := ?_) ?_ ?_
    rotate_left
    · simp only [Act.put, List.setIfInBounds_toArray, List.set_cons_succ, List.set_cons_zero]; rfl
    refine hoist_skip [] [] 12 rfl (by kernel_rfl) (.inl ⟨rfl, rfl⟩) rfl (a1 := ?_) ?_ ?_
    rotate_left
    · simp only [Act.put, List.setIfInBounds_toArray, List.set_cons_succ, List.set_cons_zero]; rfl
    refine hoist_skip [] [] 13 rfl (by kernel_rfl) (.inl ⟨rfl, rfl⟩) rfl (a1 := ?_) ?_ ?_
    rotate_left
    · simp only [Act.put, List.setIfInBounds_toArray, List.set_cons_succ, List.set_cons_zero]; rfl
    refine hoist_skip [] [] 14 rfl (by kernel_rfl) (.inl ⟨rfl, rfl⟩) rfl (a1 := ?_) ?_ ?_
    rotate_left
    · simp only [Act.put, List.setIfInBounds_toArray, List.set_cons_succ, List.set_cons_zero]; rfl
    refine hoist_skip [] [] 15 rfl (by kernel_rfl) (.inl ⟨rfl, rfl⟩) rfl (a1 := ?_) ?_ ?_
    rotate_left
    · simp only [Act.put, List.setIfInBounds_toArray, List.set_cons_succ, List.set_cons_zero]; rfl
    refine hoist_skip [] [] 16 rfl (by kernel_rfl) (.inl ⟨rfl, rfl⟩) rfl (a1 := ?_) ?_ ?_
    rotate_left
    · simp only [Act.put, List.setIfInBounds_toArray, List.set_cons_succ, List.set_cons_zero]; rfl
    refine hoist [] [] (a1 := ?_) 17 rfl (by kernel_rfl) (.inl ⟨rfl, rfl⟩) rfl rfl rfl (fun x K hK => ?_) ?_
    rotate_left
    · go_big_quiet_op
      exact hK
    refine hoist [] [] (a1 := ?_) 18 rfl (by kernel_rfl) (.inl ⟨rfl, rfl⟩) rfl rfl rfl (fun x K hK => ?_) ?_
    rotate_left
    · go_big_quiet_op
      exact hK
    refine done (by kernel_rfl) (fun xr => ?_)
    have B4 := Lib.hid (B2.out.trans xr.bw)
    go_wp2_with fail
    go_ret
    exact ⟨by rw [q.out]; rfl, B4.out⟩
  · have d : decide (many < (n : Nat)) = false := decide_eq_false hm
    have hC : Hid (∀ y : LaterS [] w1, Calls Try.prog 73 #[.slice sa n cap, .func (.func 104) #[] #[.pointer (some ⟨bt, 0, none⟩), .pointer (some ⟨bx, 0, none⟩)]] y.now fun e w' => e = .returned (.bool (L.any (lateE tick wait))) ∧ BW y.now w') := Lib.hid (fun y => qhas_any base n _ L _ [.pointer (some ⟨bt, 0, none⟩), .pointer (some ⟨bx, 0, none⟩)] _ y.now (Q1.out.bw y.bw) hn (fun E hm s cb wx B => late1_any g0 bt bx tick wait y.now (y.bw.cell ((hp_cell X2.out 0).trans rfl)) (m0 y) (y.bw.cell ((hp_cell P1.out 1).trans rfl)) E s cb (hE E hm) wx B) enterLate)
    rw [d] at q
    generalize L.any (lateE tick wait) = r at *
    clear hE
    refine wp_region_gg [] [] [] (by kernel_rfl) ?_
    refine hoist [] [] (a1 := ?_) 0 rfl (by kernel_rfl) (.inl ⟨rfl, rfl⟩) rfl rfl rfl (fun x K hK => ?_) ?_
    rotate_left
    · go_big_quiet_op
      exact hK
    refine hoist [] [] (a1 := ?_) 1 rfl (by kernel_rfl) (.inl ⟨rfl, rfl⟩) rfl rfl rfl (fun x K hK => ?_) ?_
    rotate_left
    · go_big_quiet_op
      exact hK
    refine hoist [] [] (a1 := ?_) 2 rfl (by kernel_rfl) (.inl ⟨rfl, rfl⟩) rfl rfl rfl (fun x K hK => ?_) ?_
    rotate_left
    · go_big_quiet_op
      exact hK
    refine hoist [] [] (a1 := ?_) 3 rfl (by kernel_rfl) (.inl ⟨rfl, rfl⟩) rfl rfl rfl (fun x K hK => ?_) ?_
    rotate_left
    · go_big_quiet_op
      exact hK
    refine hoist [] [] (a1 := ?_) 4 rfl (by kernel_rfl) (.inl ⟨rfl, rfl⟩) rfl rfl rfl (fun x K hK => ?_) ?_
    rotate_left
    · go_big_quiet_op
      exact hK
    refine hoist [] [] (a1 := ?_) 5 rfl (by kernel_rfl) (.inl ⟨rfl, rfl⟩) rfl rfl rfl (fun x K hK => ?_) ?_
    rotate_left
    · go_big_quiet_op
      exact hK
    refine hoist [] [] (a1 := ?_) 6 rfl (by kernel_rfl) (.inl ⟨rfl, rfl⟩) rfl rfl rfl (fun x K hK => ?_) ?_
    rotate_left
    · go_big_quiet_op
      exact hK
    refine hoist [] [] (a1 := ?_) 7 rfl (by kernel_rfl) (.inl ⟨rfl, rfl⟩) rfl rfl rfl (fun x K hK => ?_) ?_
    rotate_left
    · go_big_quiet_op
      exact hK
    refine hoist [] [] (a1 := ?_) 8 rfl (by kernel_rfl) (.inl ⟨rfl, rfl⟩) rfl rfl rfl (fun x K hK => ?_) ?_
    rotate_left
    · go_big_quiet_op
      exact hK
    refine hoist [] [] (a1 := ?_) 9 rfl (by kernel_rfl) (.inl ⟨rfl, rfl⟩) rfl rfl rfl (fun x K hK => ?_) ?_
    rotate_left
    · go_big_quiet_op
      exact hK
    refine hoist [] [] (a1 := ?_) 10 rfl (by kernel_rfl) (.inl ⟨rfl, rfl⟩) rfl rfl rfl (fun x K hK => ?_) ?_
    rotate_left
    · go_big_quiet_op
      exact hK
    refine hoist [] [] (a1 := ?_) 11 rfl (by kernel_rfl) (.inl ⟨rfl, rfl⟩) rfl rfl rfl (fun x K hK => ?_) ?_
    rotate_left
    · go_big_quiet_op
      exact hK
    refine hoist [] [] (a1 := ?_) 12 rfl (by kernel_rfl) (.inl ⟨rfl, rfl⟩) rfl rfl rfl (fun x K hK => ?_) ?_
    rotate_left
    · go_big_quiet_op
      exact hK
    refine hoist [] [] (a1 := ?_) 13 rfl (by kernel_rfl) (.inl ⟨rfl, rfl⟩) rfl rfl rfl (fun x K hK => ?_) ?_
    rotate_left
    · go_big_quiet_op
      exact hK
    refine hoist [] [] (a1 := ?_) 14 rfl (by kernel_rfl) (.inl ⟨rfl, rfl⟩) rfl rfl rfl (fun x K hK => ?_) ?_
    rotate_left
    · go_big_quiet_op
      exact hK
    refine hoist [] [] (a1 := ?_) 15 rfl (by kernel_rfl) (.inl ⟨rfl, rfl⟩) rfl rfl rfl (fun x K hK => ?_) ?_
    rotate_left
    · go_big_quiet_op
      exact hK
    refine effect 16 rfl (by kernel_rfl) (by kernel_rfl) rfl (fun x16 K hK => ?_)
    go_simp
    refine Calls.mono (hC.out x16) ?_
    rintro e w6 ⟨rfl, hb⟩
    refine hK _ _ (hb.still []) ?_
    clear hK K
    have B4 := Lib.hid (B2.out.trans (x16.bw.trans hb))
    clear hb
    try simp only [Act.put, List.setIfInBounds_toArray, List.set_cons_succ, List.set_cons_zero]
    refine hoist [] [] (a1 := ?_) 17 rfl (by kernel_rfl) (.inl ⟨rfl, rfl⟩) rfl rfl rfl (fun x K hK => ?_) ?_
    rotate_left
    · go_big_quiet_op
      exact hK
    refine hoist [] [] (a1 := ?_) 18 rfl (by kernel_rfl) (.inl ⟨rfl, rfl⟩) rfl rfl rfl (fun x K hK => ?_) ?_
    rotate_left
    · go_big_quiet_op
      exact hK
    refine done (by kernel_rfl) (fun xr => ?_)
    have B5 := Lib.hid (B4.out.trans xr.bw)
    go_wp2_with fail
    go_ret
    exact ⟨by rw [q.out]; rfl, B5.out⟩
end Go.Proofs.Ytcempndfbckcaaa
