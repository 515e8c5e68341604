/- Packets put into order: Put, walked. No condition but the sizes'. -/
import Derived.Test.YtcempndfbckcaaaReT
import Derived.Test.YtcempndfbckcaaaCln
namespace Go.Proofs.Ytcempndfbckcaaa
open Go.RowKit

set_option maxRecDepth 100000 in
set_option maxHeartbeats 8000000 in
theorem put_neg (g0 : Nat) (i tick : Int) (hi : i < 0) (v : Value) (w : World) :
    Calls Try.prog 36 #[.pointer (some ⟨g0, 0, none⟩), .int .i64 i, .int .i64 tick, v] w fun e w' => e = .returned (.tuple #[.slice none 0 0, .int .i64 1]) ∧ BW w w' := by
  have d0 : decide (i < 0) = true := by simpa using hi
  have B : BW w (w.alloc (.cells #[.int .i64 i] 2)) := (BW.refl w).alloc
  replace B := Lib.hid B
  go_enter Try.func36, Try.ntmps36
  go_wp2_with fail
  go_ret2
  exact ⟨rfl, B.out⟩
theorem BufI.drop {w : World} {base g0 sa cv S H} (h : BufI w base g0 sa cv S H) : BufI (w.setCell ⟨g0, 5, none⟩ (.int .i64 (S.dropped + 1))) base g0 sa cv { S with dropped := S.dropped + 1 } H :=
  ⟨hp_set h.hp 5 _, h.eq.still (still_sc w g0 5 _) (fun k hk => (by simpa using hk : k = g0) ▸ .inr ⟨_, _, _, h.hp, by decide⟩) (fun k hk hm => h.ow (by rw [hk]; simpa using hm)), h.hh, h.pm, ⟨h.ok.ix, h.ok.ca, h.ok.nd, h.ok.nx, h.ok.st, h.ok.pa⟩, h.ow⟩
theorem enterPut (args : Array Value) (w : World) : (callFunc 74 args).run Try.prog w = .ok (.enter 74 args) w := by kernel_rfl
set_option maxRecDepth 100000 in
set_option maxHeartbeats 8000000 in
theorem put_below (base g0 cv : Nat) (sa : Option Addr) (S : BS) (H : List Ent) (i tick : Int) (h0 : 0 ≤ i) (hx : 0 ≤ S.next) (hi : i < S.next) (hd : 0 ≤ S.dropped ∧ S.dropped ≤ 1000000) (v : Value) (w : World) (h : BufI w base g0 sa cv S H) :
    Calls Try.prog 36 #[.pointer (some ⟨g0, 0, none⟩), .int .i64 i, .int .i64 tick, v] w fun e w' => e = .returned (.tuple #[.slice none 0 0, .int .i64 5]) ∧ BufI w' base g0 sa cv { S with dropped := S.dropped + 1 } H ∧ Still [g0] w w' := by
  have d0 : decide (i < 0) = false := by simpa using h0
  have d1 : decide (S.next < 0) = false := by simpa using hx
  have d2 : decide (i < S.next) = true := by simpa using hi
  have B : BW w (w.alloc (.cells #[.int .i64 i] 2)) := (BW.refl w).alloc
  have hI := Lib.hid (h.bw B)
  have X := HpB.new w (.cells #[.int .i64 i] 2)
  clear h
  replace B := Lib.hid B
  go_enter Try.func36, Try.ntmps36
  go_upto_region 1 with (fail)
  generalize w.alloc (.cells #[.int .i64 i] 2) = w1 at *
  generalize w.heap.size = bi at *
  have z0 := (hp_cell X 0).trans (show _ = some (.int .i64 i) from rfl)
  have z2 := (hp_cell hI.out.hp 2).trans (show _ = some (.int .i64 S.next) from rfl)
  replace X := Lib.hid X
  go_upto_region 5 with (fail)
  have m0 : ∀ y : LaterS [] w1, _ := fun y => y.bw.cell z0
  have m2 : ∀ y : LaterS [] w1, _ := fun y => y.bw.cell z2
  refine wp_region_gg [] [] [] (by kernel_rfl) ?_
  refine hoist [] [] (a1 := ?_) 0 rfl (by kernel_rfl) (.inl ⟨rfl, rfl⟩) rfl rfl rfl (fun x K hK => ?_) ?_
  rotate_left
  · go_big_quiet_op
    exact hK
  refine hoist [] [] (a1 := ?_) 1 rfl (by kernel_rfl) (.inl ⟨rfl, rfl⟩) rfl rfl rfl (fun x K hK => ?_) ?_
  rotate_left
  · go_big_quiet_op
    exact hK
  refine hoist [] [] (a1 := ?_) 2 rfl (by kernel_rfl) (.inl ⟨rfl, rfl⟩) rfl rfl rfl (fun x K hK => ?_) ?_
  rotate_left
  · go_big_quiet_op
    exact hK
  refine hoist [] [] (a1 := ?_) 3 rfl (by kernel_rfl) (.inl ⟨rfl, rfl⟩) rfl rfl rfl (fun x K hK => ?_) ?_
  rotate_left
  · go_big_quiet_op
    exact hK
  refine hoist [] [] (a1 := ?_) 4 rfl (by kernel_rfl) (.inl ⟨rfl, rfl⟩) rfl rfl rfl (fun x K hK => ?_) ?_
  rotate_left
  · go_big_quiet_op
    exact hK
  refine hoist [] [] (a1 := ?_) 5 rfl (by kernel_rfl) (.inl ⟨rfl, rfl⟩) rfl rfl rfl (fun x K hK => ?_) ?_
  rotate_left
  · go_big_quiet_op
    exact hK
  refine hoist [] [] (a1 := ?_) 6 rfl (by kernel_rfl) (.inl ⟨rfl, rfl⟩) rfl rfl rfl (fun x K hK => ?_) ?_
  rotate_left
  · go_big_quiet_op
    exact hK
  refine hoist_skip [] [] 7 rfl (by kernel_rfl) (.inl ⟨rfl, rfl⟩) rfl (a1 := ?_) ?_ ?_
  rotate_left
  · simp only [Act.put, List.setIfInBounds_toArray, List.set_cons_succ, List.set_cons_zero]; rfl
  refine hoist_skip [] [] 8 rfl (by kernel_rfl) (.inl ⟨rfl, rfl⟩) rfl (a1 := ?_) ?_ ?_
  rotate_left
  · simp only [Act.put, List.setIfInBounds_toArray, List.set_cons_succ, List.set_cons_zero]; rfl
  refine hoist_skip [] [] 9 rfl (by kernel_rfl) (.inl ⟨rfl, rfl⟩) rfl (a1 := ?_) ?_ ?_
  rotate_left
  · simp only [Act.put, List.setIfInBounds_toArray, List.set_cons_succ, List.set_cons_zero]; rfl
  refine hoist_skip [] [] 10 rfl (by kernel_rfl) (.inl ⟨rfl, rfl⟩) rfl (a1 := ?_) ?_ ?_
  rotate_left
  · simp only [Act.put, List.setIfInBounds_toArray, List.set_cons_succ, List.set_cons_zero]; rfl
  refine hoist_skip [] [] 11 rfl (by kernel_rfl) (.inl ⟨rfl, rfl⟩) rfl (a1 := ?_) ?_ ?_
  rotate_left
  · simp only [Act.put, List.setIfInBounds_toArray, List.set_cons_succ, List.set_cons_zero]; rfl
  refine hoist_skip [] [] 12 rfl (by kernel_rfl) (.inl ⟨rfl, rfl⟩) rfl (a1 := ?_) ?_ ?_
  rotate_left
  · simp only [Act.put, List.setIfInBounds_toArray, List.set_cons_succ, List.set_cons_zero]; rfl
  refine hoist [] [] (a1 := ?_) 13 rfl (by kernel_rfl) (.inl ⟨rfl, rfl⟩) rfl rfl rfl (fun x K hK => ?_) ?_
  rotate_left
  · go_big_quiet_op
    exact hK
  refine hoist [] [] (a1 := ?_) 14 rfl (by kernel_rfl) (.inl ⟨rfl, rfl⟩) rfl rfl rfl (fun x K hK => ?_) ?_
  rotate_left
  · go_big_quiet_op
    exact hK
  refine done (by kernel_rfl) (fun xr => ?_)
  have I4 := Lib.hid (hI.out.bw xr.bw)
  have B4 := Lib.hid (B.out.trans xr.bw)
  clear m0 m2 z0 z2 hI
  generalize xr.now = w4 at *
  have z5 := (hp_cell I4.out.hp 5).trans (show _ = some (.int .i64 S.dropped) from rfl)
  have y5 := hp_frz I4.out.hp 5
  go_wp2_with fail
  go_ret2
  exact ⟨rfl, I4.out.drop, (B4.out.still [g0]).trans (still_sc w4 g0 5 _)⟩
set_option maxRecDepth 100000 in
set_option maxHeartbeats 8000000 in
theorem put_dup (base g0 cv : Nat) (sa : Option Addr) (S : BS) (H : List Ent) (i tick : Int) (h0 : 0 ≤ i) (hx : 0 ≤ S.next) (hi : S.next ≤ i) (hany : S.L.any (isE i) = true) (hn : S.L.length ≤ 1000) (hd : 0 ≤ S.dropped ∧ S.dropped ≤ 1000000) (v : Value) (w : World) (h : BufI w base g0 sa cv S H) :
    Calls Try.prog 36 #[.pointer (some ⟨g0, 0, none⟩), .int .i64 i, .int .i64 tick, v] w fun e w' => e = .returned (.tuple #[.slice none 0 0, .int .i64 5]) ∧ BufI w' base g0 sa cv { S with dropped := S.dropped + 1 } H ∧ Still [g0] w w' := by
  have d0 : decide (i < 0) = false := by simpa using h0
  have d1 : decide (S.next < 0) = false := by simpa using hx
  have d2 : decide (i < S.next) = false := by simpa using hi
  have hmf : ∀ (fn : Fn) (first cap : Array Value) (w : World), (Instr.makeFunc fn first cap).run Try.prog w = .ok (.func fn first cap) w := fun _ _ _ _ => rfl
  have hHany : H.any (isE i) = true := by
    obtain ⟨x, hx, h2⟩ := List.any_eq_true.1 hany
    exact List.any_eq_true.2 ⟨x, h.pm.mem_iff.1 hx, h2⟩
  have B : BW w (w.alloc (.cells #[.int .i64 i] 2)) := (BW.refl w).alloc
  have hI := Lib.hid (h.bw B)
  have X := HpB.new w (.cells #[.int .i64 i] 2)
  clear h
  replace B := Lib.hid B
  go_enter Try.func36, Try.ntmps36
  go_upto_region 1 with (fail)
  generalize w.alloc (.cells #[.int .i64 i] 2) = w1 at *
  generalize w.heap.size = bi at *
  have z0 := (hp_cell X 0).trans (show _ = some (.int .i64 i) from rfl)
  have z2 := (hp_cell hI.out.hp 2).trans (show _ = some (.int .i64 S.next) from rfl)
  replace X := Lib.hid X
  go_upto_region 5 with (fail)
  have m0 : ∀ y : LaterS [] w1, _ := fun y => y.bw.cell z0
  have m2 : ∀ y : LaterS [] w1, _ := fun y => y.bw.cell z2
  have m3 : ∀ y : LaterS [] w1, y.now.cell? ⟨g0, 3, none⟩ = some (.slice sa S.L.length cv) := fun y => y.bw.cell ((hp_cell hI.out.hp 3).trans rfl)
  have hC : Hid (∀ y : LaterS [] w1, Calls Try.prog 73 #[.slice sa S.L.length cv, .func (.func 74) #[] #[.pointer (some ⟨bi, 0, none⟩)]] y.now fun e w' => e = .returned (.bool true) ∧ BW y.now w') := Lib.hid (fun y => by rw [← hHany]; exact qhas_any base S.L.length _ H _ [.pointer (some ⟨bi, 0, none⟩)] (isE i) y.now (hI.out.eq.bw y.bw) (by omega) (fun E hE s cb wx B => put1_any bi i y.now (m0 y) E s cb wx B) enterPut)
  refine wp_region_gg [] [] [] (by kernel_rfl) ?_
  refine hoist [] [] (a1 := ?_) 0 rfl (by kernel_rfl) (.inl ⟨rfl, rfl⟩) rfl rfl rfl (fun x K hK => ?_) ?_
  rotate_left
  · go_big_quiet_op
    exact hK
  refine hoist [] [] (a1 := ?_) 1 rfl (by kernel_rfl) (.inl ⟨rfl, rfl⟩) rfl rfl rfl (fun x K hK => ?_) ?_
  rotate_left
  · go_big_quiet_op
    exact hK
  refine hoist [] [] (a1 := ?_) 2 rfl (by kernel_rfl) (.inl ⟨rfl, rfl⟩) rfl rfl rfl (fun x K hK => ?_) ?_
  rotate_left
  · go_big_quiet_op
    exact hK
  refine hoist [] [] (a1 := ?_) 3 rfl (by kernel_rfl) (.inl ⟨rfl, rfl⟩) rfl rfl rfl (fun x K hK => ?_) ?_
  rotate_left
  · go_big_quiet_op
    exact hK
  refine hoist [] [] (a1 := ?_) 4 rfl (by kernel_rfl) (.inl ⟨rfl, rfl⟩) rfl rfl rfl (fun x K hK => ?_) ?_
  rotate_left
  · go_big_quiet_op
    exact hK
  refine hoist [] [] (a1 := ?_) 5 rfl (by kernel_rfl) (.inl ⟨rfl, rfl⟩) rfl rfl rfl (fun x K hK => ?_) ?_
  rotate_left
  · go_big_quiet_op
    exact hK
  refine hoist [] [] (a1 := ?_) 6 rfl (by kernel_rfl) (.inl ⟨rfl, rfl⟩) rfl rfl rfl (fun x K hK => ?_) ?_
  rotate_left
  · go_big_quiet_op
    exact hK
  refine hoist [] [] (a1 := ?_) 7 rfl (by kernel_rfl) (.inl ⟨rfl, rfl⟩) rfl rfl rfl (fun x K hK => ?_) ?_
  rotate_left
  · go_big_quiet_op
    exact hK
  refine hoist [] [] (a1 := ?_) 8 rfl (by kernel_rfl) (.inl ⟨rfl, rfl⟩) rfl rfl rfl (fun x K hK => ?_) ?_
  rotate_left
  · go_big_quiet_op
    exact hK
  refine hoist [] [] (a1 := ?_) 9 rfl (by kernel_rfl) (.inl ⟨rfl, rfl⟩) rfl rfl rfl (fun x K hK => ?_) ?_
  rotate_left
  · go_big_quiet_op
    exact hK
  refine hoist [] [] (a1 := ?_) 10 rfl (by kernel_rfl) (.inl ⟨rfl, rfl⟩) rfl rfl rfl (fun x K hK => ?_) ?_
  rotate_left
  · go_big_quiet_op
    exact hK
  refine hoist [] [] (a1 := ?_) 11 rfl (by kernel_rfl) (.inl ⟨rfl, rfl⟩) rfl rfl rfl (fun x K hK => ?_) ?_
  rotate_left
  · go_big_quiet_op
    exact hK
  refine effect 12 rfl (by kernel_rfl) (by kernel_rfl) rfl (fun x12 K hK => ?_)
  go_simp
  refine Calls.mono (hC.out x12) ?_
  rintro e w6 ⟨rfl, hb⟩
  refine hK _ _ (hb.still []) ?_
  clear hK K
  have B12 := Lib.hid (x12.bw.trans hb)
  clear hb
  try simp only [Act.put, List.setIfInBounds_toArray, List.set_cons_succ, List.set_cons_zero]
  refine hoist [] [] (a1 := ?_) 13 rfl (by kernel_rfl) (.inl ⟨rfl, rfl⟩) rfl rfl rfl (fun x K hK => ?_) ?_
  rotate_left
  · go_big_quiet_op
    exact hK
  refine hoist [] [] (a1 := ?_) 14 rfl (by kernel_rfl) (.inl ⟨rfl, rfl⟩) rfl rfl rfl (fun x K hK => ?_) ?_
  rotate_left
  · go_big_quiet_op
    exact hK
  refine done (by kernel_rfl) (fun xr => ?_)
  have I4 := Lib.hid (hI.out.bw (B12.out.trans xr.bw))
  have B4 := Lib.hid (B.out.trans (B12.out.trans xr.bw))
  clear m0 m2 m3 hC z0 z2 hI
  generalize xr.now = w4 at *
  have z5 := (hp_cell I4.out.hp 5).trans (show _ = some (.int .i64 S.dropped) from rfl)
  have y5 := hp_frz I4.out.hp 5
  go_wp2_with fail
  go_ret2
  exact ⟨rfl, I4.out.drop, (B4.out.still [g0]).trans (still_sc w4 g0 5 _)⟩
end Go.Proofs.Ytcempndfbckcaaa
