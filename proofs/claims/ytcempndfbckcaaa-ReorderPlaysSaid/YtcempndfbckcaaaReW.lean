/- Packets put into order: Put of an index that is none of those. No condition but the sizes'. -/
import Derived.Test.YtcempndfbckcaaaReU
import Derived.Test.YtcempndfbckcaaaReV
namespace Go.Proofs.Ytcempndfbckcaaa
open Go.RowKit

/-- Bytes that are read do not lie in a buffer. -/
theorem SB.offBuf {w w' : World} {v : Value} {n : Nat} {l : List Nat} (h : SB w v n l) {g : Nat} {c : Array Value} {t : TypeId} {fr : Nat × Nat} (hg : w.heap[g]? = some (.cells c t fr)) (hc : ∀ (i : Nat) (x : Int), c[i]? ≠ some (Value.int .u8 x)) (hs : Still [g] w w') : SB w' v n l := by
  obtain ⟨h1, h2, h3, h4, h5 | ⟨b, o, cap, rfl, hn, hcm, hlt, hcell⟩⟩ := h
  · exact ⟨h1, h2, h3, h4, .inl h5⟩
  · by_cases hbg : b = g
    · subst hbg
      have hn0 : n = 0 := by
        rcases Nat.eq_zero_or_pos n with h | h
        · exact h
        · have := hcell 0 (by omega)
          rw [hp_cell hg, bvs_get _ _ (by omega)] at this
          exact absurd this (hc _ _)
      subst hn0
      exact ⟨h1, h2, h3, h4, .inl ⟨rfl, _, cap, rfl, by simp, hcm⟩⟩
    · refine ⟨h1, h2, h3, h4, .inr ⟨b, o, cap, rfl, hn, hcm, Nat.lt_of_lt_of_le hlt hs.size, fun j hj => ?_⟩⟩
      rw [← hcell j hj]
      exact World.cell?_of_block (hs.block b hlt (by simpa using hbg))
theorem bufC_nou8 (a b c : Int) (s : Option Addr) (n k : Nat) (d e : Int) : ∀ (i : Nat) (x : Int), (bufC a b c (.slice s n k) d e)[i]? ≠ some (Value.int .u8 x) := by
  intro i x
  unfold bufC
  match i with
  | 0 => simp
  | 1 => simp
  | 2 => simp
  | 3 => simp
  | 4 => simp
  | 5 => simp
  | i + 6 => simp
/-- What Put's contract tells. -/
def PutPost (base g0 : Nat) (sa : Option Addr) (n cv : Nat) (R : BS × List (Int × List Nat) × Nat) (w : World) (e : Ending) (w' : World) : Prop :=
  ∃ H' sb cc so co, e = .returned (.tuple #[.slice so R.2.1.length co, .int .i64 (R.2.2 : Nat)]) ∧ EQ IB 70 w' base (.slice so R.2.1.length co) R.2.1.length R.2.1 ∧ BufI w' base g0 sb cc R.1 H' ∧ Still (g0 :: (Value.slice sa n cv).ownBlock.toList) w w' ∧ ∀ j, ((Value.slice sb R.1.L.length cc).ownBlock = some j → (Value.slice sa n cv).ownBlock = some j ∨ w.heap.size ≤ j) ∧ ((Value.slice so R.2.1.length co).ownBlock = some j → w.heap.size ≤ j)
set_option maxRecDepth 100000 in
set_option maxHeartbeats 8000000 in
theorem put_new (base g0 cv n cb : Nat) (sa sb : Option Addr) (S : BS) (H : List Ent) (i tick : Int) (b : List Nat) (R : BS × List (Int × List Nat) × Nat) (h0 : 0 ≤ i ∧ i ≤ 1152921504606846976) (hx : 0 ≤ S.next) (hi : S.next ≤ i) (hany : S.L.any (isE i) = false) (hn : S.L.length < 900) (ht : -1152921504606846976 ≤ tick ∧ tick ≤ 1152921504606846976) (hnl : b.length = n) (hnm : n ≤ 1000000) (hR : R = ((tickS tick (addS S ⟨i, b, tick⟩).L.length (addS S ⟨i, b, tick⟩)).1, (tickS tick (addS S ⟨i, b, tick⟩).L.length (addS S ⟨i, b, tick⟩)).2, 0)) (w : World) (hb0 : base ≤ w.heap.size) (h : BufI w base g0 sa cv S H) (hV : SB w (.slice sb n cb) n b) :
    Calls Try.prog 36 #[.pointer (some ⟨g0, 0, none⟩), .int .i64 i, .int .i64 tick, .slice sb n cb] w fun e w' => PutPost base g0 sa S.L.length cv R w e w' := by
  have d0 : decide (i < 0) = false := by simp; omega
  have d1 : decide (S.next < 0) = false := by simpa using hx
  have d2 : decide (i < S.next) = false := by simpa using hi
  have hmf : ∀ (fn : Fn) (first cap : Array Value) (w : World), (Instr.makeFunc fn first cap).run Try.prog w = .ok (.func fn first cap) w := fun _ _ _ _ => rfl
  have hHany : H.any (isE i) = false := by
    cases h2 : H.any (isE i) with
    | false => rfl
    | true =>
      obtain ⟨x, hx, h2⟩ := List.any_eq_true.1 h2
      exact absurd (List.any_eq_true.2 ⟨x, h.pm.mem_iff.2 hx, h2⟩) (by rw [hany]; decide)
  have B : BW w (w.alloc (.cells #[.int .i64 i] 2)) := (BW.refl w).alloc
  have hAO : Hid (BOk (addS S ⟨i, b, tick⟩)) := Lib.hid (add_ok h.ok h0 hi hx ht hany)
  have hI := Lib.hid (h.bw B)
  have hV1 := Lib.hid (hV.bw B)
  have X := HpB.new w (.cells #[.int .i64 i] 2)
  have hl : Hid (S.L.length < 1000) := Lib.hid (by omega)
  have hRQ := Lib.hid hR
  clear h hV hR hany hn
  replace B := Lib.hid B
  replace hb0 := Lib.hid hb0
  replace hnl := Lib.hid hnl
  go_enter Try.func36, Try.ntmps36
  go_upto_region 1 with (fail)
  generalize w.alloc (.cells #[.int .i64 i] 2) = w1 at *
  generalize hbe : w.heap.size = bi at *
  replace hbe := Lib.hid hbe
  have z0 := (hp_cell X 0).trans (show _ = some (.int .i64 i) from rfl)
  have z2 := (hp_cell hI.out.hp 2).trans (show _ = some (.int .i64 S.next) from rfl)
  replace X := Lib.hid X
  go_upto_region 5 with (fail)
  have m0 : ∀ y : LaterS [] w1, _ := fun y => y.bw.cell z0
  have m2 : ∀ y : LaterS [] w1, _ := fun y => y.bw.cell z2
  have m3 : ∀ y : LaterS [] w1, y.now.cell? ⟨g0, 3, none⟩ = some (.slice sa S.L.length cv) := fun y => y.bw.cell ((hp_cell hI.out.hp 3).trans rfl)
  have hC : Hid (∀ y : LaterS [] w1, Calls Try.prog 73 #[.slice sa S.L.length cv, .func (.func 74) #[] #[.pointer (some ⟨bi, 0, none⟩)]] y.now fun e w' => e = .returned (.bool false) ∧ BW y.now w') := Lib.hid (fun y => by rw [← hHany]; exact qhas_any base S.L.length _ H _ [.pointer (some ⟨bi, 0, none⟩)] (isE i) y.now (hI.out.eq.bw y.bw) (by have := hl.out; omega) (fun E hE s cb wx B => put1_any bi i y.now (m0 y) E s cb wx B) enterPut)
  refine wp_region_gg [] [] [] (by kernel_rfl) ?_
  refine hoist [] [] (a1 := ?_) 0 rfl (by kernel_rfl) (.inl ⟨rfl, rfl⟩) rfl rfl rfl (fun x K hK => ?_) ?_
  rotate_left
  · go_big_quiet_op
    exact hK
  refine hoist [] [] (a1 := ?_) 1 rfl (by kernel_rfl) (.inl ⟨rfl, rfl⟩) rfl rfl rfl (fun x K hK => ?_) ?_
  rotate_left
  · go_big_quiet_op
    exact hK
  refine hoist [] [] (a1 := ?_) 2 rfl (by kernel_rfl) (.inl ⟨rfl, rfl⟩) rfl rfl rfl (fun x K hK => ?_) ?_
  rotate_left
  · go_big_quiet_op
    exact hK
  refine hoist [] [] (a1 := ?_) 3 rfl (by kernel_rfl) (.inl ⟨rfl, rfl⟩) rfl rfl rfl (fun x K hK => ?_) ?_
  rotate_left
  · go_big_quiet_op
    exact hK
  refine hoist [] [] (a1 := ?_) 4 rfl (by kernel_rfl) (.inl ⟨rfl, rfl⟩) rfl rfl rfl (fun x K hK => ?_) ?_
  rotate_left
  · go_big_quiet_op
    exact hK
  refine hoist [] [] (a1 := ?_) 5 rfl (by kernel_rfl) (.inl ⟨rfl, rfl⟩) rfl rfl rfl (fun x K hK => ?_) ?_
  rotate_left
  · go_big_quiet_op
    exact hK
  refine hoist [] [] (a1 := ?_) 6 rfl (by kernel_rfl) (.inl ⟨rfl, rfl⟩) rfl rfl rfl (fun x K hK => ?_) ?_
  rotate_left
  · go_big_quiet_op
    exact hK
  refine hoist [] [] (a1 := ?_) 7 rfl (by kernel_rfl) (.inl ⟨rfl, rfl⟩) rfl rfl rfl (fun x K hK => ?_) ?_
  rotate_left
  · go_big_quiet_op
    exact hK
  refine hoist [] [] (a1 := ?_) 8 rfl (by kernel_rfl) (.inl ⟨rfl, rfl⟩) rfl rfl rfl (fun x K hK => ?_) ?_
  rotate_left
  · go_big_quiet_op
    exact hK
  refine hoist [] [] (a1 := ?_) 9 rfl (by kernel_rfl) (.inl ⟨rfl, rfl⟩) rfl rfl rfl (fun x K hK => ?_) ?_
  rotate_left
  · go_big_quiet_op
    exact hK
  refine hoist [] [] (a1 := ?_) 10 rfl (by kernel_rfl) (.inl ⟨rfl, rfl⟩) rfl rfl rfl (fun x K hK => ?_) ?_
  rotate_left
  · go_big_quiet_op
    exact hK
  refine hoist [] [] (a1 := ?_) 11 rfl (by kernel_rfl) (.inl ⟨rfl, rfl⟩) rfl rfl rfl (fun x K hK => ?_) ?_
  rotate_left
  · go_big_quiet_op
    exact hK
  refine effect 12 rfl (by kernel_rfl) (by kernel_rfl) rfl (fun x12 K hK => ?_)
  go_simp
  refine Calls.mono (hC.out x12) ?_
  rintro e w6 ⟨rfl, hb⟩
  refine hK _ _ (hb.still []) ?_
  clear hK K
  have B12 := Lib.hid (x12.bw.trans hb)
  clear hb
  try simp only [Act.put, List.setIfInBounds_toArray, List.set_cons_succ, List.set_cons_zero]
  refine hoist [] [] (a1 := ?_) 13 rfl (by kernel_rfl) (.inl ⟨rfl, rfl⟩) rfl rfl rfl (fun x K hK => ?_) ?_
  rotate_left
  · go_big_quiet_op
    exact hK
  refine hoist [] [] (a1 := ?_) 14 rfl (by kernel_rfl) (.inl ⟨rfl, rfl⟩) rfl rfl rfl (fun x K hK => ?_) ?_
  rotate_left
  · go_big_quiet_op
    exact hK
  refine done (by kernel_rfl) (fun xr => ?_)
  have B2 := Lib.hid (B12.out.trans xr.bw)
  have I4 := Lib.hid (hI.out.bw B2.out)
  have T4 := Lib.hid ((B.out.trans B2.out).still [g0])
  have hV4 := Lib.hid (hV1.out.bw B2.out)
  have z4 := B2.out.cell z0
  clear m0 m2 m3 hC z0 z2 hI hV1 B2 B12 hHany
  generalize xr.now = w4 at *
  obtain ⟨SX, hSX⟩ : ∃ SX, SX = S := ⟨_, rfl⟩
  have hLn : Hid (SX.L.length = S.L.length) := Lib.hid (by rw [hSX])
  rw [← hSX] at I4 hAO hl hRQ
  clear hSX
  have hCl := Lib.hid (fun (y : LaterS [] w4) => clone_ok sb n cb b (by omega) y.now (hV4.out.bw y.bw))
  have m0 : ∀ y : LaterS [] w4, _ := fun y => y.bw.cell z4
  go_upto_region 8 with (fail)
  refine wp_region_gg [] [] [11] (by kernel_rfl) ?_
  refine hoist [] [] (a1 := ?_) 0 rfl (by kernel_rfl) (.inl ⟨rfl, rfl⟩) rfl rfl rfl (fun x K hK => ?_) ?_
  rotate_left
  · go_big_quiet_op
    exact hK
  refine hoist [] [] (a1 := ?_) 1 rfl (by kernel_rfl) (.inl ⟨rfl, rfl⟩) rfl rfl rfl (fun x K hK => ?_) ?_
  rotate_left
  · go_big_quiet_op
    exact hK
  refine hoist [] [] (a1 := ?_) 2 rfl (by kernel_rfl) (.inl ⟨rfl, rfl⟩) rfl rfl rfl (fun x K hK => ?_) ?_
  rotate_left
  · go_big_quiet_op
    exact hK
  refine hoist [] [] (a1 := ?_) 3 rfl (by kernel_rfl) (.inl ⟨rfl, rfl⟩) rfl rfl rfl (fun x K hK => ?_) ?_
  rotate_left
  · go_big_quiet_op
    exact hK
  refine hoist [] [] (a1 := ?_) 4 rfl (by kernel_rfl) (.inl ⟨rfl, rfl⟩) rfl rfl rfl (fun x K hK => ?_) ?_
  rotate_left
  · go_big_quiet_op
    exact hK
  refine hoist [] [] (a1 := ?_) 5 rfl (by kernel_rfl) (.inl ⟨rfl, rfl⟩) rfl rfl rfl (fun x K hK => ?_) ?_
  rotate_left
  · go_big_quiet_op
    exact hK
  refine hoist [] [] (a1 := ?_) 8 rfl (by kernel_rfl) (.inl ⟨rfl, rfl⟩) rfl rfl rfl (fun x K hK => ?_) ?_
  rotate_left
  · go_big_quiet_op
    exact hK
  refine effect 6 rfl (by kernel_rfl) (by kernel_rfl) rfl (fun x6 K hK => ?_)
  go_simp
  refine Calls.mono (hCl.out x6) ?_
  rintro e wa ⟨va, rfl, Oa, hb⟩
  obtain ⟨s6, c6, rfl, _, _⟩ := Oa.len
  refine hK _ _ (Still.of_below hb) ?_
  clear hK K
  have B6 := Lib.hid (BW.call x6.bw hb)
  have hz6 := Lib.hid (Nat.le_trans (Nat.le_trans hb0.out (Nat.le_trans (Nat.le_of_eq hbe.out.symm) T4.out.size)) x6.bw.size)
  replace Oa := Lib.hid (Oa.up hz6.out)
  clear hb
  try simp only [Act.put, List.setIfInBounds_toArray, List.set_cons_succ, List.set_cons_zero]
  refine hoist [] [] (a1 := ?_) 7 rfl (by kernel_rfl) (.inl ⟨rfl, rfl⟩) rfl rfl rfl (fun x K hK => ?_) ?_
  rotate_left
  · go_big_quiet_op
    exact hK
  refine hoist [] [] (a1 := ?_) 9 rfl (by kernel_rfl) (.inl ⟨rfl, rfl⟩) rfl rfl rfl (fun x K hK => ?_) ?_
  rotate_left
  · go_big_quiet_op
    exact hK
  refine hoist [] [] (a1 := ?_) 10 rfl (by kernel_rfl) (.inl ⟨rfl, rfl⟩) rfl rfl rfl (fun x K hK => ?_) ?_
  rotate_left
  · go_big_quiet_op
    exact hK
  refine tail 11 rfl (by kernel_rfl) rfl (fun xr => ?_)
  simp only [List.drop_succ_cons, List.drop_zero]
  have B7 := Lib.hid (B6.out.trans xr.bw)
  have O7 := Lib.hid (Oa.out.bw xr.bw)
  have I7 := Lib.hid (I4.out.bw B7.out)
  have T7 := Lib.hid (T4.out.trans (B7.out.still [g0]))
  have hz7 := Lib.hid (Nat.le_trans hb0.out (Nat.le_trans (Nat.le_of_eq hbe.out.symm) T7.out.size))
  clear B6 Oa I4 hz6 m0 hCl z4 B7 hV4 T4
  generalize xr.now = w7 at *
  have hP := Lib.hid (hpush_st base g0 cv sa SX H ⟨i, b, tick⟩ s6 c6 hl.out w7 hz7.out I7.out hAO.out (by show OB _ _ _ (.slice s6 b.length c6) b.length b; rw [hnl.out]; exact O7.out))
  rw [show (⟨i, b, tick⟩ : Ent).b.length = n from hnl.out] at hP
  dsimp only at hP
  go_wp2_with fail
  refine Calls.mono hP.out ?_
  rintro e w8 ⟨rfl, sb2, cc2, H2, hm2, I8, T8, G8⟩
  rw [hLn.out] at T8
  have T9 : Hid (Still (g0 :: (Value.slice sa S.L.length cv).ownBlock.toList) w w8) := Lib.hid ((T7.out.weaken (fun k hk => by obtain rfl : k = g0 := (by simpa using hk); exact List.mem_cons_self)).trans T8)
  have G9 : Hid (∀ j, (Value.slice sb2 (SX.L.length + 1) cc2).ownBlock = some j → (Value.slice sa S.L.length cv).ownBlock = some j ∨ w.heap.size ≤ j) := Lib.hid (fun j hj => (G8 j hj).imp (fun h => by rw [hLn.out] at h; exact h) (Nat.le_trans T7.out.size))
  have hz8 := Lib.hid (Nat.le_trans hz7.out T8.size)
  replace I8 := Lib.hid I8
  clear hP T8 G8 T7 I7 O7 hz7
  have hTk := Lib.hid (tick_any base g0 cc2 sb2 (addS SX ⟨i, b, tick⟩) H2 tick ht (by have := hl.out; simp [addS]; omega) w8 hz8.out I8.out)
  dsimp only
  go_wp2_with fail
  refine Calls.mono hTk.out ?_
  rintro e w9 ⟨H3, so, co, rfl, Q9, I9, T10, G10⟩
  have hRR := hRQ.out
  replace Q9 := Lib.hid Q9
  replace I9 := Lib.hid I9
  replace T10 := Lib.hid T10
  replace G10 := Lib.hid G10
  clear hTk
  dsimp only
  go_wp2_with fail
  go_ret2
  refine ⟨H3, sb2, cc2, so, co, by rw [hRR]; rfl, by rw [hRR]; exact Q9.out, by rw [hRR]; exact I9.out, T9.out.transF T10.out (fun k hk => ?_), fun j => ⟨fun hj => G9.out j (by cases sb2 <;> exact hj), fun hj => Nat.le_trans T9.out.size (G10.out j (by rw [hRR] at hj; exact hj))⟩⟩
  rcases List.mem_cons.1 hk with rfl | hk
  · exact .inl List.mem_cons_self
  · exact (G9.out k (by have h2 := Option.mem_toList.1 hk; cases sb2 <;> exact h2)).imp_left (fun h => List.mem_cons_of_mem _ (by simpa using h))
set_option maxRecDepth 100000 in
set_option maxHeartbeats 8000000 in
theorem put_first (base g0 cv n cb : Nat) (sa sb : Option Addr) (S : BS) (H : List Ent) (i tick : Int) (b : List Nat) (R : BS × List (Int × List Nat) × Nat) (h0 : 0 ≤ i ∧ i ≤ 1152921504606846976) (hx : S.next < 0) (hn : S.L.length < 900) (ht : -1152921504606846976 ≤ tick ∧ tick ≤ 1152921504606846976) (hnl : b.length = n) (hnm : n ≤ 1000000) (hR : R = ((tickS tick (addS { S with next := i } ⟨i, b, tick⟩).L.length (addS { S with next := i } ⟨i, b, tick⟩)).1, (tickS tick (addS { S with next := i } ⟨i, b, tick⟩).L.length (addS { S with next := i } ⟨i, b, tick⟩)).2, 0)) (w : World) (hb0 : base ≤ w.heap.size) (h : BufI w base g0 sa cv S H) (hV : SB w (.slice sb n cb) n b) :
    Calls Try.prog 36 #[.pointer (some ⟨g0, 0, none⟩), .int .i64 i, .int .i64 tick, .slice sb n cb] w fun e w' => PutPost base g0 sa S.L.length cv R w e w' := by
  have d0 : decide (i < 0) = false := by simp; omega
  have d1 : decide (S.next < 0) = true := by simpa using hx
  have B : BW w (w.alloc (.cells #[.int .i64 i] 2)) := (BW.refl w).alloc
  have hany : ({ S with next := i } : BS).L.any (isE i) = false := by rw [show ({ S with next := i } : BS).L = S.L from rfl, any_nil h.ok hx]; rfl
  have hF := first_ok h.ok hx h0
  have hAO : Hid (BOk (addS { S with next := i } ⟨i, b, tick⟩)) := Lib.hid (add_ok hF h0 (Int.le_refl _) h0.1 ht hany)
  have hI := Lib.hid (h.bw B)
  have hV1 := Lib.hid (hV.bw B)
  have X := HpB.new w (.cells #[.int .i64 i] 2)
  have hl : Hid (({ S with next := i } : BS).L.length < 1000) := Lib.hid (by show S.L.length < 1000; omega)
  have hRQ := Lib.hid hR
  have hlt := h.hp.lt
  clear h hV hR hany hn
  replace B := Lib.hid B
  replace hb0 := Lib.hid hb0
  replace hnl := Lib.hid hnl
  replace hF := Lib.hid hF
  replace hlt := Lib.hid hlt
  go_enter Try.func36, Try.ntmps36
  go_upto_region 1 with (fail)
  have hbi : g0 ≠ w.heap.size := Nat.ne_of_lt hlt.out
  generalize w.alloc (.cells #[.int .i64 i] 2) = w1 at *
  generalize hbe : w.heap.size = bi at *
  replace hbe := Lib.hid hbe
  have z0 := (hp_cell X 0).trans (show _ = some (.int .i64 i) from rfl)
  have z2 := (hp_cell hI.out.hp 2).trans (show _ = some (.int .i64 S.next) from rfl)
  have y2 := hp_frz hI.out.hp 2
  have T3 := Lib.hid (still_sc w1 g0 2 (.int .i64 i))
  have I4 : Hid (BufI (w1.setCell ⟨g0, 2, none⟩ (.int .i64 i)) base g0 sa cv { S with next := i } H) := Lib.hid ⟨hp_set hI.out.hp 2 _, hI.out.eq.still T3.out (fun k hk => (by simpa using hk : k = g0) ▸ .inr ⟨_, _, _, hI.out.hp, by decide⟩) (fun k hk hm => hI.out.ow (by rw [hk]; simpa using hm)), hI.out.hh, hI.out.pm, hF.out, hI.out.ow⟩
  have hV4 := Lib.hid (hV1.out.offBuf hI.out.hp (bufC_nou8 _ _ _ _ _ _ _ _) T3.out)
  have T4 := Lib.hid ((B.out.still [g0]).trans T3.out)
  have z4 : (w1.setCell ⟨g0, 2, none⟩ (.int .i64 i)).cell? ⟨bi, 0, none⟩ = some (.int .i64 i) := (World.cell?_of_block (hp_oth (fun e => hbi e.symm))).trans z0
  replace X := Lib.hid X
  replace hbi := Lib.hid hbi
  go_upto_region 8 with (fail)
  clear z0 z2 y2 hI hV1 T3 X
  generalize w1.setCell ⟨g0, 2, none⟩ (.int .i64 i) = w4 at *
  obtain ⟨SX, hSX⟩ : ∃ SX, SX = ({ S with next := i } : BS) := ⟨_, rfl⟩
  have hLn : Hid (SX.L.length = S.L.length) := Lib.hid (by rw [hSX])
  rw [← hSX] at I4 hAO hl hRQ
  clear hSX
  have hCl := Lib.hid (fun (y : LaterS [] w4) => clone_ok sb n cb b (by omega) y.now (hV4.out.bw y.bw))
  have m0 : ∀ y : LaterS [] w4, _ := fun y => y.bw.cell z4
  go_upto_region 8 with (fail)
  refine wp_region_gg [] [] [11] (by kernel_rfl) ?_
  refine hoist [] [] (a1 := ?_) 0 rfl (by kernel_rfl) (.inl ⟨rfl, rfl⟩) rfl rfl rfl (fun x K hK => ?_) ?_
  rotate_left
  · go_big_quiet_op
    exact hK
  refine hoist [] [] (a1 := ?_) 1 rfl (by kernel_rfl) (.inl ⟨rfl, rfl⟩) rfl rfl rfl (fun x K hK => ?_) ?_
  rotate_left
  · go_big_quiet_op
    exact hK
  refine hoist [] [] (a1 := ?_) 2 rfl (by kernel_rfl) (.inl ⟨rfl, rfl⟩) rfl rfl rfl (fun x K hK => ?_) ?_
  rotate_left
  · go_big_quiet_op
    exact hK
  refine hoist [] [] (a1 := ?_) 3 rfl (by kernel_rfl) (.inl ⟨rfl, rfl⟩) rfl rfl rfl (fun x K hK => ?_) ?_
  rotate_left
  · go_big_quiet_op
    exact hK
  refine hoist [] [] (a1 := ?_) 4 rfl (by kernel_rfl) (.inl ⟨rfl, rfl⟩) rfl rfl rfl (fun x K hK => ?_) ?_
  rotate_left
  · go_big_quiet_op
    exact hK
  refine hoist [] [] (a1 := ?_) 5 rfl (by kernel_rfl) (.inl ⟨rfl, rfl⟩) rfl rfl rfl (fun x K hK => ?_) ?_
  rotate_left
  · go_big_quiet_op
    exact hK
  refine hoist [] [] (a1 := ?_) 8 rfl (by kernel_rfl) (.inl ⟨rfl, rfl⟩) rfl rfl rfl (fun x K hK => ?_) ?_
  rotate_left
  · go_big_quiet_op
    exact hK
  refine effect 6 rfl (by kernel_rfl) (by kernel_rfl) rfl (fun x6 K hK => ?_)
  go_simp
  refine Calls.mono (hCl.out x6) ?_
  rintro e wa ⟨va, rfl, Oa, hb⟩
  obtain ⟨s6, c6, rfl, _, _⟩ := Oa.len
  refine hK _ _ (Still.of_below hb) ?_
  clear hK K
  have B6 := Lib.hid (BW.call x6.bw hb)
  have hz6 := Lib.hid (Nat.le_trans (Nat.le_trans hb0.out (Nat.le_trans (Nat.le_of_eq hbe.out.symm) T4.out.size)) x6.bw.size)
  replace Oa := Lib.hid (Oa.up hz6.out)
  clear hb
  try simp only [Act.put, List.setIfInBounds_toArray, List.set_cons_succ, List.set_cons_zero]
  refine hoist [] [] (a1 := ?_) 7 rfl (by kernel_rfl) (.inl ⟨rfl, rfl⟩) rfl rfl rfl (fun x K hK => ?_) ?_
  rotate_left
  · go_big_quiet_op
    exact hK
  refine hoist [] [] (a1 := ?_) 9 rfl (by kernel_rfl) (.inl ⟨rfl, rfl⟩) rfl rfl rfl (fun x K hK => ?_) ?_
  rotate_left
  · go_big_quiet_op
    exact hK
  refine hoist [] [] (a1 := ?_) 10 rfl (by kernel_rfl) (.inl ⟨rfl, rfl⟩) rfl rfl rfl (fun x K hK => ?_) ?_
  rotate_left
  · go_big_quiet_op
    exact hK
  refine tail 11 rfl (by kernel_rfl) rfl (fun xr => ?_)
  simp only [List.drop_succ_cons, List.drop_zero]
  have B7 := Lib.hid (B6.out.trans xr.bw)
  have O7 := Lib.hid (Oa.out.bw xr.bw)
  have I7 := Lib.hid (I4.out.bw B7.out)
  have T7 := Lib.hid (T4.out.trans (B7.out.still [g0]))
  have hz7 := Lib.hid (Nat.le_trans hb0.out (Nat.le_trans (Nat.le_of_eq hbe.out.symm) T7.out.size))
  clear B6 Oa I4 hz6 m0 hCl z4 B7 hV4 T4
  generalize xr.now = w7 at *
  have hP := Lib.hid (hpush_st base g0 cv sa SX H ⟨i, b, tick⟩ s6 c6 hl.out w7 hz7.out I7.out hAO.out (by show OB _ _ _ (.slice s6 b.length c6) b.length b; rw [hnl.out]; exact O7.out))
  rw [show (⟨i, b, tick⟩ : Ent).b.length = n from hnl.out] at hP
  dsimp only at hP
  go_wp2_with fail
  refine Calls.mono hP.out ?_
  rintro e w8 ⟨rfl, sb2, cc2, H2, hm2, I8, T8, G8⟩
  rw [hLn.out] at T8
  have T9 : Hid (Still (g0 :: (Value.slice sa S.L.length cv).ownBlock.toList) w w8) := Lib.hid ((T7.out.weaken (fun k hk => by obtain rfl : k = g0 := (by simpa using hk); exact List.mem_cons_self)).trans T8)
  have G9 : Hid (∀ j, (Value.slice sb2 (SX.L.length + 1) cc2).ownBlock = some j → (Value.slice sa S.L.length cv).ownBlock = some j ∨ w.heap.size ≤ j) := Lib.hid (fun j hj => (G8 j hj).imp (fun h => by rw [hLn.out] at h; exact h) (Nat.le_trans T7.out.size))
  have hz8 := Lib.hid (Nat.le_trans hz7.out T8.size)
  replace I8 := Lib.hid I8
  clear hP T8 G8 T7 I7 O7 hz7
  have hTk := Lib.hid (tick_any base g0 cc2 sb2 (addS SX ⟨i, b, tick⟩) H2 tick ht (by have := hl.out; simp [addS]; omega) w8 hz8.out I8.out)
  dsimp only
  go_wp2_with fail
  refine Calls.mono hTk.out ?_
  rintro e w9 ⟨H3, so, co, rfl, Q9, I9, T10, G10⟩
  have hRR := hRQ.out
  replace Q9 := Lib.hid Q9
  replace I9 := Lib.hid I9
  replace T10 := Lib.hid T10
  replace G10 := Lib.hid G10
  clear hTk
  dsimp only
  go_wp2_with fail
  go_ret2
  refine ⟨H3, sb2, cc2, so, co, by rw [hRR]; rfl, by rw [hRR]; exact Q9.out, by rw [hRR]; exact I9.out, T9.out.transF T10.out (fun k hk => ?_), fun j => ⟨fun hj => G9.out j (by cases sb2 <;> exact hj), fun hj => Nat.le_trans T9.out.size (G10.out j (by rw [hRR] at hj; exact hj))⟩⟩
  rcases List.mem_cons.1 hk with rfl | hk
  · exact .inl List.mem_cons_self
  · exact (G9.out k (by have h2 := Option.mem_toList.1 hk; cases sb2 <;> exact h2)).imp_left (fun h => List.mem_cons_of_mem _ (by simpa using h))
end Go.Proofs.Ytcempndfbckcaaa
