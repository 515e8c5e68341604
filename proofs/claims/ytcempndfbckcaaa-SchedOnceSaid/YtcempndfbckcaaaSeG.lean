/- The table of tasks: New, At, Next. No condition but the sizes'. -/
import Derived.Test.YtcempndfbckcaaaSeF
import Derived.Test.YtcempndfbckcaaaSeP
namespace Go.Proofs.Ytcempndfbckcaaa
open Go.RowKit

/-- A table, and what the program keeps of it. -/
structure TabI (w : World) (base g0 : Nat) (sa : Option Addr) (cv : Nat) (last : Int) (S H : List Tk) : Prop where
  hp : HpB w g0 (.cells #[.slice sa S.length cv, .int .i64 last] 141)
  eq : EQ TN 144 w base (.slice sa S.length cv) S.length H
  hh : Hp S.length (kT H)
  pm : S.Perm H
  ok : TOk S last
  ow : (Value.slice sa S.length cv).ownBlock ≠ some g0
theorem TabI.bw {w w' : World} {base g0 sa cv last S H} (h : TabI w base g0 sa cv last S H) (b : BW w w') : TabI w' base g0 sa cv last S H := ⟨h.hp.bw b, h.eq.bw b, h.hh, h.pm, h.ok, h.ow⟩
theorem TabI.still {w w' : World} {base g0 sa cv last S H} (h : TabI w base g0 sa cv last S H) {S0 : List Nat} (T : Still S0 w w') (h0 : g0 ∉ S0) (hq : ∀ k, (Value.slice sa S.length cv).ownBlock = some k → k ∉ S0) : TabI w' base g0 sa cv last S H :=
  ⟨h.hp.st T h0, h.eq.still T (fun _ _ => trivial) hq, h.hh, h.pm, h.ok, h.ow⟩
theorem TabI.lt {w : World} {base g0 sa cv last S H} (h : TabI w base g0 sa cv last S H) : ∀ k ∈ g0 :: (Value.slice sa S.length cv).ownBlock.toList, k < w.heap.size := fun k hk => by
  rcases List.mem_cons.1 hk with rfl | hk
  · exact h.hp.lt
  · exact h.eq.lt' k (by simpa using hk)
theorem TabI.ge {w : World} {base g0 sa cv last S H} (h : TabI w base g0 sa cv last S H) (hb : base ≤ g0) : ∀ k ∈ g0 :: (Value.slice sa S.length cv).ownBlock.toList, base ≤ k := fun k hk => by
  rcases List.mem_cons.1 hk with rfl | hk
  · exact hb
  · exact h.eq.ge' k (by simpa using hk)
/-- One pushed. -/
theorem tpush_st (base g0 cv : Nat) (sa : Option Addr) (last : Int) (S H : List Tk) (E : Tk) (hn : S.length < 1000) (w : World) (hb0 : base ≤ w.heap.size) (h : TabI w base g0 sa cv last S H) (h1 : 1 ≤ E.n ∧ E.n ≤ last) (h2 : 0 ≤ E.t ∧ E.t ≤ 1125899906842624 ∧ 0 ≤ E.p ∧ E.p ≤ 35184372088832) (h3 : E.n ∉ S.map Tk.n) :
    Calls Try.prog 75 #[.iface 142 (.pointer (some ⟨g0, 0, none⟩)), .iface 144 (.agg (tkC E))] w fun e w' => e = .returned (.tuple #[]) ∧ ∃ sb cc H', cc ≤ maxLen ∧ TabI w' base g0 sb cc last (insT E S) H' ∧ Still (g0 :: (Value.slice sa S.length cv).ownBlock.toList) w w' ∧ (∀ j, (Value.slice sb (S.length + 1) cc).ownBlock = some j → (Value.slice sa S.length cv).ownBlock = some j ∨ w.heap.size ≤ j) := by
  obtain ⟨hp, heq, hh, hpm, hok, how⟩ := h
  have hlt := hp.lt
  have hls := hok.ls
  refine (thpush_any base g0 0 cv S.length sa _ H E (by omega) w hb0 how hp rfl heq (by omega) hh).mono ?_
  rintro e w' ⟨rfl, sb, cc, L', hm, p1, k3, P3, Q3, T3, G3⟩
  have hl := insT_len E S
  refine ⟨rfl, sb, cc, L', hm, ⟨?_, ?_, ?_, ?_, hok.ins ⟨Int.le_refl _, hls.2⟩ h1 h2 h3, ?_⟩, T3, G3⟩
  · rw [hl]; exact P3
  · rw [hl]; exact Q3
  · rw [hl]; exact k3
  · exact (insT_perm E S).trans (((hpm.cons E).trans (List.perm_append_singleton E H).symm).trans p1)
  · rw [hl]
    intro e
    rcases G3 g0 e with h1 | h1
    · exact how h1
    · omega
/-- One popped: the first. -/
theorem tpop_st (base g0 cv : Nat) (sa : Option Addr) (last : Int) (x : Tk) (S H : List Tk) (hn : S.length < 1000) (w : World) (h : TabI w base g0 sa cv last (x :: S) H) :
    Calls Try.prog 82 #[.iface 142 (.pointer (some ⟨g0, 0, none⟩))] w fun e w' => e = .returned (.iface 144 (.agg (tkC x))) ∧ ∃ H', TabI w' base g0 sa cv last S H' ∧ Still (g0 :: (Value.slice sa (S.length + 1) cv).ownBlock.toList) w w' := by
  obtain ⟨hp, heq, hh, hpm, hok, how⟩ := h
  rw [List.length_cons] at hp heq hh how
  obtain ⟨g, o, rfl, hgb, -⟩ := tn_form heq (by omega)
  have hg : g0 ≠ g := fun e => how (by simp [Value.ownBlock, e])
  refine (thpop_any base g0 0 g o cv S.length _ H (by omega) w hg hp rfl heq hh).mono ?_
  rintro e w' ⟨E, L', rfl, p1, p2, k3, P3, Q3, T3⟩
  obtain rfl := hok.least hpm (p1.mem_iff.2 List.mem_cons_self) p2
  refine ⟨rfl, L', ⟨P3, Q3, k3, ?_, hok.tail, by simpa [Value.ownBlock] using fun e => hg e.symm⟩, T3.weaken (fun k hk => by simpa [Value.ownBlock] using hk)⟩
  exact (hpm.trans p1).cons_inv
theorem TabI.first {w : World} {base g0 sa cv last x S H} (h : TabI w base g0 sa cv last (x :: S) H) (hH : 0 < H.length) : H[0] = x := by
  refine h.ok.least h.pm (List.getElem_mem hH) (fun y hy => ?_)
  obtain ⟨k, hk, rfl⟩ := List.getElem_of_mem hy
  have h1 := h.hh.least k (by rw [h.pm.length_eq]; exact hk)
  unfold kT at h1
  rw [kf_get hH, kf_get hk] at h1
  exact h1
set_option maxRecDepth 100000 in
set_option maxHeartbeats 8000000 in
theorem tnew_any (w0 w : World) (B : BW w0 w) :
    Calls Try.prog 49 #[] w fun e w' => ∃ g0, e = .returned (.pointer (some ⟨g0, 0, none⟩)) ∧ TabI w' w0.heap.size g0 none 0 0 [] [] ∧ w0.heap.size ≤ g0 ∧ BW w w' := by
  have hz := B.size
  go_enter Try.func49, Try.ntmps49
  go_wp2_with fail
  go_ret
  exact ⟨_, rfl, ⟨HpB.new w _, EQ.nil _ _ _ _, fun k h => absurd h (by simp), .refl _, TOk.nil, by simp [Value.ownBlock]⟩, hz, (BW.refl w).alloc⟩
def tickOk (n : Int) : Bool := decide (0 ≤ n) && decide (n ≤ 1099511627776)
set_option maxRecDepth 100000 in
set_option maxHeartbeats 8000000 in
theorem tickOf_any (n : Int) (w : World) : Calls Try.prog 81 #[.int .i64 n] w fun e w' => e = .returned (.bool (tickOk n)) ∧ w' = w := by
  have e : tickOk n = (decide (0 ≤ n) && decide (n ≤ 1099511627776)) := rfl
  generalize tickOk n = b at *
  cases h1 : decide (0 ≤ n) with
  | true =>
    rw [h1] at e
    have e2 := Lib.hid e
    clear e
    go_enter Try.func81, Try.ntmps81
    go_wp2_with fail
    go_ret
    exact ⟨by rw [e2.out]; rfl, rfl⟩
  | false =>
    rw [h1] at e
    have e2 := Lib.hid e
    clear e
    go_enter Try.func81, Try.ntmps81
    go_wp2_with fail
    go_ret
    exact ⟨by rw [e2.out]; rfl, rfl⟩
theorem tickOk_of {n : Int} (h : 0 ≤ n ∧ n ≤ 1099511627776) : tickOk n = true := by
  unfold tickOk
  rw [decide_eq_true h.1, decide_eq_true h.2]; rfl
set_option maxRecDepth 100000 in
set_option maxHeartbeats 8000000 in
theorem tat_ok (base g0 cv : Nat) (sa : Option Addr) (last : Int) (S H : List Tk) (tick each : Int) (s : ByteArray) (ht : 0 ≤ tick ∧ tick ≤ 1099511627776) (he : 0 ≤ each ∧ each ≤ 1099511627776) (hs : s.size ≤ 32) (hn : S.length < 64) (hl : last < 1000) (w : World) (hb0 : base ≤ w.heap.size) (h : TabI w base g0 sa cv last S H) :
    Calls Try.prog 50 #[.pointer (some ⟨g0, 0, none⟩), .int .i64 tick, .int .i64 each, .string s] w fun e w' => e = .returned (.tuple #[.int .i64 (last + 1), .int .i64 0]) ∧ ∃ sb cc H', TabI w' base g0 sb cc (last + 1) (insT ⟨last + 1, tick, each, s⟩ S) H' ∧ Still (g0 :: (Value.slice sa S.length cv).ownBlock.toList) w w' := by
  have c1 := tickOf_any tick w
  have c2 := tickOf_any each w
  rw [tickOk_of ht] at c1
  rw [tickOk_of he] at c2
  replace c1 := Lib.hid c1
  replace c2 := Lib.hid c2
  have hls := h.ok.ls
  have hI := Lib.hid h
  have z0 := (hp_cell h.hp 0).trans (show _ = some (.slice sa S.length cv) from rfl)
  have z1 := (hp_cell h.hp 1).trans (show _ = some (.int .i64 last) from rfl)
  have y1 := hp_frz h.hp 1
  have d1 : decide ((32 : Int) < (s.size : Nat)) = false := decide_eq_false (by omega)
  have d2 : decide ((64 : Int) ≤ (S.length : Nat)) = false := decide_eq_false (by omega)
  clear h
  generalize hln : S.length = ln at *
  replace hln := Lib.hid hln
  go_enter Try.func50, Try.ntmps50
  go_wp2_with fail
  refine c1.out.mono ?_
  rintro e w1 ⟨rfl, rfl⟩
  clear c1
  dsimp only
  go_wp2_with fail
  refine c2.out.mono ?_
  rintro e w1 ⟨rfl, rfl⟩
  clear c2
  dsimp only
  go_upto_region 6 with (fail)
  have T1 := Lib.hid (still_sc w1 g0 1 (.int .i64 (last + 1)))
  have hok := hI.out.ok
  have hnn : (last + 1) ∉ S.map Tk.n := fun hm => by
    obtain ⟨x, hx, hx2⟩ := List.mem_map.1 hm
    have := hok.rg x hx
    omega
  have I1 : Hid (TabI (w1.setCell ⟨g0, 1, none⟩ (.int .i64 (last + 1))) base g0 sa cv (last + 1) S H) := Lib.hid ⟨hp_set hI.out.hp 1 _, hI.out.eq.still T1.out (fun _ _ => trivial) (fun k hk hm => hI.out.ow (by rw [hk]; simpa using hm)), hI.out.hh, hI.out.pm, ⟨hok.so, hok.nd, fun x hx => by have := hok.rg x hx; omega, hok.tk, by omega⟩, hI.out.ow⟩
  have hz1 := Lib.hid (Nat.le_trans hb0 T1.out.size)
  replace hb0 := Lib.hid hb0
  clear hok z0 z1 y1 hI
  generalize w1.setCell ⟨g0, 1, none⟩ (.int .i64 (last + 1)) = w2 at *
  have z1 := (hp_cell I1.out.hp 1).trans (show _ = some (.int .i64 (last + 1)) from rfl)
  have m1 : ∀ y : LaterS [] w2, _ := fun y => y.bw.cell z1
  refine wp_region_gg [] [] [13] (by kernel_rfl) ?_
  refine hoist [] [] (a1 := ?_) 0 rfl (by kernel_rfl) (.inl ⟨rfl, rfl⟩) rfl rfl rfl (fun x K hK => ?_) ?_
  rotate_left
  · go_big_quiet_op
    exact hK
  refine hoist [] [] (a1 := ?_) 1 rfl (by kernel_rfl) (.inl ⟨rfl, rfl⟩) rfl rfl rfl (fun x K hK => ?_) ?_
  rotate_left
  · go_big_quiet_op
    exact hK
  refine hoist [] [] (a1 := ?_) 2 rfl (by kernel_rfl) (.inl ⟨rfl, rfl⟩) rfl rfl rfl (fun x K hK => ?_) ?_
  rotate_left
  · go_big_quiet_op
    exact hK
  refine hoist [] [] (a1 := ?_) 3 rfl (by kernel_rfl) (.inl ⟨rfl, rfl⟩) rfl rfl rfl (fun x K hK => ?_) ?_
  rotate_left
  · go_big_quiet_op
    exact hK
  refine hoist [] [] (a1 := ?_) 4 rfl (by kernel_rfl) (.inl ⟨rfl, rfl⟩) rfl rfl rfl (fun x K hK => ?_) ?_
  rotate_left
  · go_big_quiet_op
    exact hK
  refine hoist [] [] (a1 := ?_) 5 rfl (by kernel_rfl) (.inl ⟨rfl, rfl⟩) rfl rfl rfl (fun x K hK => ?_) ?_
  rotate_left
  · go_big_quiet_op
    exact hK
  refine hoist [] [] (a1 := ?_) 6 rfl (by kernel_rfl) (.inl ⟨rfl, rfl⟩) rfl rfl rfl (fun x K hK => ?_) ?_
  rotate_left
  · go_big_quiet_op
    exact hK
  refine hoist [] [] (a1 := ?_) 7 rfl (by kernel_rfl) (.inl ⟨rfl, rfl⟩) rfl rfl rfl (fun x K hK => ?_) ?_
  rotate_left
  · go_big_quiet_op
    exact hK
  refine hoist [] [] (a1 := ?_) 8 rfl (by kernel_rfl) (.inl ⟨rfl, rfl⟩) rfl rfl rfl (fun x K hK => ?_) ?_
  rotate_left
  · go_big_quiet_op
    exact hK
  refine hoist [] [] (a1 := ?_) 9 rfl (by kernel_rfl) (.inl ⟨rfl, rfl⟩) rfl rfl rfl (fun x K hK => ?_) ?_
  rotate_left
  · go_big_quiet_op
    exact hK
  refine hoist [] [] (a1 := ?_) 10 rfl (by kernel_rfl) (.inl ⟨rfl, rfl⟩) rfl rfl rfl (fun x K hK => ?_) ?_
  rotate_left
  · go_big_quiet_op
    exact hK
  refine hoist [] [] (a1 := ?_) 11 rfl (by kernel_rfl) (.inl ⟨rfl, rfl⟩) rfl rfl rfl (fun x K hK => ?_) ?_
  rotate_left
  · go_big_quiet_op
    exact hK
  refine hoist [] [] (a1 := ?_) 12 rfl (by kernel_rfl) (.inl ⟨rfl, rfl⟩) rfl rfl rfl (fun x K hK => ?_) ?_
  rotate_left
  · go_big_quiet_op
    exact hK
  refine tail 13 rfl (by kernel_rfl) rfl (fun xr => ?_)
  simp only [List.drop_succ_cons, List.drop_zero]
  have I2 := Lib.hid (I1.out.bw xr.bw)
  have T2 := Lib.hid (T1.out.trans (xr.bw.still [g0]))
  have hz2 := Lib.hid (Nat.le_trans hz1.out xr.bw.size)
  clear m1 z1 I1 T1 hz1
  generalize xr.now = w3 at *
  have hP := Lib.hid (tpush_st base g0 cv sa (last + 1) S H ⟨last + 1, tick, each, s⟩ (by rw [hln.out]; omega) w3 hz2.out I2.out ⟨by show 1 ≤ last + 1; omega, Int.le_refl _⟩ ⟨ht.1, by show tick ≤ _; omega, he.1, by show each ≤ _; omega⟩ hnn)
  unfold tkC at hP
  replace hnn := Lib.hid hnn
  go_wp2_with fail
  refine Calls.mono hP.out ?_
  rintro e w4 ⟨rfl, sb, cc, H', hcc, I4, T4, -⟩
  have z1 := (hp_cell I4.hp 1).trans (show _ = some (.int .i64 (last + 1)) from rfl)
  have TT := Lib.hid ((T2.out.weaken (S' := g0 :: (Value.slice sa S.length cv).ownBlock.toList) (fun k hk => by obtain rfl : k = g0 := (by simpa using hk); exact List.mem_cons_self)).trans T4)
  rw [hln.out] at TT
  replace I4 := Lib.hid I4
  clear T4 T2 hP I2
  try dsimp only
  go_wp2_with fail
  go_ret2
  exact ⟨rfl, sb, cc, H', I4.out, TT.out⟩
set_option maxRecDepth 100000 in
set_option maxHeartbeats 8000000 in
theorem tnext_any (base g0 cv : Nat) (sa : Option Addr) (last : Int) (x : Tk) (S H : List Tk) (w : World) (h : TabI w base g0 sa cv last (x :: S) H) :
    Calls Try.prog 57 #[.pointer (some ⟨g0, 0, none⟩)] w fun e w' => e = .returned (.tuple #[.int .i64 x.t, .bool true]) ∧ w' = w := by
  have z0 := (hp_cell h.hp 0).trans (show _ = some (.slice sa (S.length + 1) cv) from rfl)
  have hH : 0 < H.length := by rw [← h.pm.length_eq]; simp
  have hq := h.eq
  rw [List.length_cons] at hq
  obtain ⟨_, _, he, hnc, hcm⟩ := hq.len
  cases he
  unfold maxLen at hcm
  obtain ⟨g, o, rfl, -, hc⟩ := tn_form hq (by omega)
  obtain ⟨-, z1, -⟩ := hc 0 hH
  rw [h.first hH, Nat.zero_mul, Nat.add_zero] at z1
  have d : (((S.length + 1 : Nat) : Int) == 0) = false := by simp; omega
  clear h hq hc
  generalize x.t = xt at *
  obtain ⟨n, hn⟩ : ∃ n, S.length + 1 = n := ⟨_, rfl⟩
  have hn0 : 0 < n := by omega
  rw [hn] at z0 d hnc
  clear hn
  go_enter Try.func57, Try.ntmps57
  go_wp2_with fail
  go_ret2
  exact ⟨rfl, rfl⟩
set_option maxRecDepth 100000 in
set_option maxHeartbeats 8000000 in
theorem tnext1_any (E : Tk) (tick : Int) (h : 0 ≤ E.t ∧ E.t ≤ tick) (hp : 0 < E.p ∧ E.p ≤ 35184372088832) (ht : tick ≤ 562949953421312) (w : World) :
    Calls Try.prog 83 #[.agg (tkC E), .int .i64 tick] w fun e w' => e = .returned (.int .i64 (nextT tick E).t) ∧ BW w w' := by
  obtain ⟨k0, k1, k2, k3⟩ := next_bound h.1 h.2 hp.1
  have hR : (nextT tick E).t = E.t + ((tick - E.t) / E.p + 1) * E.p := rfl
  generalize (nextT tick E).t = R at *
  obtain ⟨en, et, ep, es⟩ := E
  unfold tkC
  dsimp only at *
  have hq : (tick - et).tdiv ep = (tick - et) / ep := Int.tdiv_eq_ediv_of_nonneg (by omega)
  generalize (tick - et) / ep = q at *
  have q1 : IntKind.i64.wrap (tick - et) = tick - et := IntWalk.i64_in _ (by omega)
  have q2 : IntKind.i64.wrap q = q := IntWalk.i64_in _ (by omega)
  have q3 : IntKind.i64.wrap (q + 1) = q + 1 := IntWalk.i64_in _ (by omega)
  have q4 : IntKind.i64.wrap ((q + 1) * ep) = (q + 1) * ep := IntWalk.i64_in _ (by omega)
  have q5 : IntKind.i64.wrap (et + (q + 1) * ep) = et + (q + 1) * ep := IntWalk.i64_in _ (by omega)
  have d : (ep == 0) = false := by simp; omega
  have B0 := Lib.hid (show BW w (w.alloc (.cells #[.int .i64 en, .int .i64 et, .int .i64 ep, .string es] 144)) from (BW.refl w).alloc)
  have P0 := HpB.new w (.cells #[.int .i64 en, .int .i64 et, .int .i64 ep, .string es] 144)
  have z1 := (hp_cell P0 1).trans (show _ = some (.int .i64 et) from rfl)
  have z2 := (hp_cell P0 2).trans (show _ = some (.int .i64 ep) from rfl)
  clear P0
  replace hR := Lib.hid hR
  go_enter Try.func83, Try.ntmps83
  go_upto_region 1 with (fail)
  generalize w.alloc (.cells #[.int .i64 en, .int .i64 et, .int .i64 ep, .string es] 144) = w1 at *
  generalize w.heap.size = g at *
  have m1 : ∀ y : LaterS [] w1, _ := fun y => y.bw.cell z1
  have m2 : ∀ y : LaterS [] w1, _ := fun y => y.bw.cell z2
  clear z1 z2
  refine wp_region_gg [] [] [] (by kernel_rfl) ?_
  refine hoist [] [] (a1 := ?_) 0 rfl (by kernel_rfl) (.inl ⟨rfl, rfl⟩) rfl rfl rfl (fun x K hK => ?_) ?_
  rotate_left
  · go_big_quiet_op
    exact hK
  refine hoist [] [] (a1 := ?_) 1 rfl (by kernel_rfl) (.inl ⟨rfl, rfl⟩) rfl rfl rfl (fun x K hK => ?_) ?_
  rotate_left
  · go_big_quiet_op
    exact hK
  refine hoist [] [] (a1 := ?_) 2 rfl (by kernel_rfl) (.inl ⟨rfl, rfl⟩) rfl rfl rfl (fun x K hK => ?_) ?_
  rotate_left
  · go_big_quiet_op
    exact hK
  refine hoist [] [] (a1 := ?_) 3 rfl (by kernel_rfl) (.inl ⟨rfl, rfl⟩) rfl rfl rfl (fun x K hK => ?_) ?_
  rotate_left
  · go_big_quiet_op
    exact hK
  refine hoist [] [] (a1 := ?_) 4 rfl (by kernel_rfl) (.inl ⟨rfl, rfl⟩) rfl rfl rfl (fun x K hK => ?_) ?_
  rotate_left
  · go_big_quiet_op
    exact hK
  refine hoist [] [] (a1 := ?_) 5 rfl (by kernel_rfl) (.inl ⟨rfl, rfl⟩) rfl rfl rfl (fun x K hK => ?_) ?_
  rotate_left
  · go_big_quiet_op
    exact hK
  refine hoist [] [] (a1 := ?_) 6 rfl (by kernel_rfl) (.inl ⟨rfl, rfl⟩) rfl rfl rfl (fun x K hK => ?_) ?_
  rotate_left
  · go_big_quiet_op
    exact hK
  refine hoist [] [] (a1 := ?_) 7 rfl (by kernel_rfl) (.inl ⟨rfl, rfl⟩) rfl rfl rfl (fun x K hK => ?_) ?_
  rotate_left
  · go_big_quiet_op
    exact hK
  refine hoist [] [] (a1 := ?_) 8 rfl (by kernel_rfl) (.inl ⟨rfl, rfl⟩) rfl rfl rfl (fun x K hK => ?_) ?_
  rotate_left
  · go_big_quiet_op
    exact hK
  refine hoist [] [] (a1 := ?_) 9 rfl (by kernel_rfl) (.inl ⟨rfl, rfl⟩) rfl rfl rfl (fun x K hK => ?_) ?_
  rotate_left
  · go_big_quiet_op
    exact hK
  refine hoist [] [] (a1 := ?_) 10 rfl (by kernel_rfl) (.inl ⟨rfl, rfl⟩) rfl rfl rfl (fun x K hK => ?_) ?_
  rotate_left
  · go_big_quiet_op
    exact hK
  refine hoist [] [] (a1 := ?_) 11 rfl (by kernel_rfl) (.inl ⟨rfl, rfl⟩) rfl rfl rfl (fun x K hK => ?_) ?_
  rotate_left
  · go_big_quiet_op
    exact hK
  refine hoist [] [] (a1 := ?_) 12 rfl (by kernel_rfl) (.inl ⟨rfl, rfl⟩) rfl rfl rfl (fun x K hK => ?_) ?_
  rotate_left
  · go_big_quiet_op
    exact hK
  refine hoist [] [] (a1 := ?_) 13 rfl (by kernel_rfl) (.inl ⟨rfl, rfl⟩) rfl rfl rfl (fun x K hK => ?_) ?_
  rotate_left
  · go_big_quiet_op
    exact hK
  refine hoist [] [] (a1 := ?_) 14 rfl (by kernel_rfl) (.inl ⟨rfl, rfl⟩) rfl rfl rfl (fun x K hK => ?_) ?_
  rotate_left
  · go_big_quiet_op
    exact hK
  refine done (by kernel_rfl) (fun xr => ?_)
  have B := Lib.hid (B0.out.trans xr.bw)
  go_wp2_with fail
  go_ret
  exact ⟨by rw [hR.out]; rfl, B.out⟩
end Go.Proofs.Ytcempndfbckcaaa
