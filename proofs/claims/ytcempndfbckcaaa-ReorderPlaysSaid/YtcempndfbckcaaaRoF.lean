/- The law ReorderPlays. No condition. -/
import Derived.Test.YtcempndfbckcaaaRoE
import Derived.Test.YtcempndfbckcaaaRx
namespace Go.Proofs.Ytcempndfbckcaaa
open Go.RowKit

theorem RoI.noB {w : World} {base g1 sl cl_ sc cc S} (h : RoI w base g1 sl cl_ sc cc S) : ∀ k ∈ g1 :: ((Value.slice sl S.L.length cl_).ownBlock.toList ++ (Value.slice sc S.L.length cc).ownBlock.toList), NoB w k := fun k hk => by
  rcases List.mem_cons.1 hk with rfl | hk
  · exact .inr ⟨_, _, _, h.hp, by decide⟩
  rcases List.mem_append.1 hk with hk | hk
  · exact h.l.noB (by decide) k hk
  · exact h.c.noB (by decide) k hk
theorem RoI.lt {w : World} {base g1 sl cl_ sc cc S} (h : RoI w base g1 sl cl_ sc cc S) : ∀ k ∈ g1 :: ((Value.slice sl S.L.length cl_).ownBlock.toList ++ (Value.slice sc S.L.length cc).ownBlock.toList), k < w.heap.size := fun k hk => by
  rcases List.mem_cons.1 hk with rfl | hk
  · exact h.hp.lt
  rcases List.mem_append.1 hk with hk | hk
  · exact h.l.lt' k (by simpa using hk)
  · exact h.c.lt' k (by simpa using hk)
theorem RoI.ge {w : World} {base g1 sl cl_ sc cc S} (h : RoI w base g1 sl cl_ sc cc S) (hb : base ≤ g1) : ∀ k ∈ g1 :: ((Value.slice sl S.L.length cl_).ownBlock.toList ++ (Value.slice sc S.L.length cc).ownBlock.toList), base ≤ k := fun k hk => by
  rcases List.mem_cons.1 hk with rfl | hk
  · exact hb
  rcases List.mem_append.1 hk with hk | hk
  · exact h.l.ge' k (by simpa using hk)
  · exact h.c.ge' k (by simpa using hk)
/-- What the buffer turns is none of the reference's. -/
theorem RoI.off {w0 w w' : World} {g0 sa cv S H} (hx : BufA w0 w g0 sa cv S H) (T : Still (g0 :: (Value.slice sa S.L.length cv).ownBlock.toList) w w') {base g1 sl cl_ sc cc S2} (h : RoI w base g1 sl cl_ sc cc S2) : RoI w' base g1 sl cl_ sc cc S2 := by
  have hno : ∀ k ∈ g0 :: (Value.slice sa S.L.length cv).ownBlock.toList, ∃ cs t, w.heap[k]? = some (.cells cs t (0, 0)) ∧ (t = 128 ∨ t = 131) := fun k hk => by
    rcases List.mem_cons.1 hk with rfl | hk
    · exact ⟨_, _, hx.i.hp, .inl rfl⟩
    · obtain ⟨cs, hh⟩ := hx.i.eq.row k (by simpa using hk)
      exact ⟨cs, _, hh, .inr rfl⟩
  refine h.still T hx.noB (fun hm => ?_) (fun k hk hm => ?_) (fun k hk hm => ?_)
  · obtain ⟨cs, t, hh, ht⟩ := hno _ hm
    have e : some (Obj.cells _ _ _) = some (Obj.cells _ _ _) := h.hp.symm.trans hh
    simp only [Option.some.injEq, Obj.cells.injEq] at e
    rcases ht with rfl | rfl <;> exact absurd e.2.1 (by decide)
  · obtain ⟨cs, t, hh, ht⟩ := hno _ hm
    exact h.l.ne hh (by rcases ht with rfl | rfl <;> decide) k hk rfl
  · obtain ⟨cs, t, hh, ht⟩ := hno _ hm
    exact h.c.ne hh (by rcases ht with rfl | rfl <;> decide) k hk rfl
/-- What the reference turns is none of the buffer's. -/
theorem BufA.off {w0 w w' : World} {g1 sl cl_ sc cc S2} (h : RoI w w0.heap.size g1 sl cl_ sc cc S2) (hg : w0.heap.size ≤ g1) (T : Still (g1 :: ((Value.slice sl S2.L.length cl_).ownBlock.toList ++ (Value.slice sc S2.L.length cc).ownBlock.toList)) w w') {g0 sa cv S H} (hx : BufA w0 w g0 sa cv S H) : BufA w0 w' g0 sa cv S H := by
  have hno : ∀ k ∈ g1 :: ((Value.slice sl S2.L.length cl_).ownBlock.toList ++ (Value.slice sc S2.L.length cc).ownBlock.toList), ∃ cs t, w.heap[k]? = some (.cells cs t (0, 0)) ∧ (t = 86 ∨ t = 70 ∨ t = 2) := fun k hk => by
    rcases List.mem_cons.1 hk with rfl | hk
    · exact ⟨_, _, h.hp, .inl rfl⟩
    rcases List.mem_append.1 hk with hk | hk
    · obtain ⟨cs, hh⟩ := h.l.row k (by simpa using hk)
      exact ⟨cs, _, hh, .inr (.inl rfl)⟩
    · obtain ⟨cs, hh⟩ := h.c.row k (by simpa using hk)
      exact ⟨cs, _, hh, .inr (.inr rfl)⟩
  refine ⟨hx.i.still T h.noB (fun hm => ?_) (fun k hk hm => ?_), BW.stP hx.b T (h.ge hg), hx.g⟩
  · obtain ⟨cs, t, hh, ht⟩ := hno _ hm
    have e : some (Obj.cells _ _ _) = some (Obj.cells _ _ _) := hx.i.hp.symm.trans hh
    simp only [Option.some.injEq, Obj.cells.injEq] at e
    rcases ht with rfl | rfl | rfl <;> exact absurd e.2.1 (by decide)
  · obtain ⟨cs, t, hh, ht⟩ := hno _ hm
    exact hx.i.eq.ne hh (by rcases ht with rfl | rfl | rfl <;> decide) k hk rfl
/-- What was told just before stays too. -/
theorem RoI.told {wp w w' : World} {base g1 sl cl_ sc cc S2} (hp : RoI wp base g1 sl cl_ sc cc S2) (h : RoI w base g1 sl cl_ sc cc S2) (T : Still (g1 :: ((Value.slice sl S2.L.length cl_).ownBlock.toList ++ (Value.slice sc S2.L.length cc).ownBlock.toList)) w w') {b2 : Nat} {v : Value} {n : Nat} {l : PL} (q : EQ IB 70 w b2 v n l) (hv : ∀ j, v.ownBlock = some j → wp.heap.size ≤ j) : EQ IB 70 w' b2 v n l :=
  q.still T h.noB (fun k hk hm => by have := hp.lt k hm; have := hv k hk; omega)
theorem BK.up {S : BS} {many d d' : Int} (h : BK S many d) (hd : d ≤ d') : BK S many d' := ⟨h.ok, h.mn, h.rm, h.dr.1, Int.le_trans h.dr.2 hd⟩
theorem tickA (g0 cv : Nat) (sa : Option Addr) (S : BS) (H : List Ent) (tick : Int) (ht : -1152921504606846976 ≤ tick ∧ tick ≤ 1152921504606846976) (hn : S.L.length ≤ 1000) (w0 w : World) (h : BufA w0 w g0 sa cv S H) (S1 : BS) (l : PL) (k : Nat) (hR : tickS tick S.L.length S = (S1, l)) (hk : l.length = k) :
    Calls Try.prog 41 #[.pointer (some ⟨g0, 0, none⟩), .int .i64 tick] w fun e w' => ∃ H' so co, e = .returned (.slice so k co) ∧ EQ IB 70 w' w0.heap.size (.slice so k co) k l ∧ BufA w0 w' g0 sa cv S1 H' ∧ Still (g0 :: (Value.slice sa S.L.length cv).ownBlock.toList) w w' ∧ ∀ j, (Value.slice so k co).ownBlock = some j → w.heap.size ≤ j := by
  refine (tick_any w0.heap.size g0 cv sa S H tick ht hn w h.b.size h.i).mono ?_
  rw [hR]
  rintro e w' ⟨H', so, co, rfl, Q, I, T, G⟩
  dsimp only at Q I G ⊢
  rw [hk] at Q G ⊢
  exact ⟨H', so, co, rfl, Q, ⟨I, BW.stP h.b T h.new, h.g⟩, T, G⟩
theorem flushA (g0 cv : Nat) (sa : Option Addr) (S : BS) (H : List Ent) (hn : S.L.length ≤ 1000) (w0 w : World) (h : BufA w0 w g0 sa cv S H) (S1 : BS) (l : PL) (k : Nat) (hR : flushS S.L.length S = (S1, l)) (hk : l.length = k) :
    Calls Try.prog 42 #[.pointer (some ⟨g0, 0, none⟩)] w fun e w' => ∃ H' so co, e = .returned (.slice so k co) ∧ EQ IB 70 w' w0.heap.size (.slice so k co) k l ∧ BufA w0 w' g0 sa cv S1 H' ∧ Still (g0 :: (Value.slice sa S.L.length cv).ownBlock.toList) w w' ∧ ∀ j, (Value.slice so k co).ownBlock = some j → w.heap.size ≤ j := by
  refine (flush_any w0.heap.size g0 cv sa S H hn w h.b.size h.i).mono ?_
  rw [hR]
  rintro e w' ⟨H', so, co, rfl, Q, I, T, G⟩
  dsimp only at Q I G ⊢
  rw [hk] at Q G ⊢
  exact ⟨H', so, co, rfl, Q, ⟨I, BW.stP h.b T h.new, h.g⟩, T, G⟩
/-- Both side by side. -/
def PJ (w0 w : World) (g0 g1 : Nat) (S : BS) : Prop := ∃ sa cv H sl cl_ sc cc, BufA w0 w g0 sa cv S H ∧ RoI w w0.heap.size g1 sl cl_ sc cc S ∧ w0.heap.size ≤ g1
theorem PJ.bw {w0 w w' : World} {g0 g1 S} (h : PJ w0 w g0 g1 S) (b : BW w w') : PJ w0 w' g0 g1 S := by
  obtain ⟨sa, cv, H, sl, cl_, sc, cc, A, R, hg⟩ := h
  exact ⟨sa, cv, H, sl, cl_, sc, cc, A.bw b, R.bw b, hg⟩
theorem PJ.b {w0 w : World} {g0 g1 S} (h : PJ w0 w g0 g1 S) : BW w0 w := by
  obtain ⟨sa, cv, H, sl, cl_, sc, cc, A, R, hg⟩ := h
  exact A.b
/-- Behind the reference's call. -/
theorem PJ.to {w0 wp w w' : World} {g0 g1 sa cv S1 H sl cl_ sc cc S} (A : BufA w0 w g0 sa cv S1 H) (Rp : RoI wp w0.heap.size g1 sl cl_ sc cc S) (R : RoI w w0.heap.size g1 sl cl_ sc cc S) (hg : w0.heap.size ≤ g1) (T : Still (g1 :: ((Value.slice sl S.L.length cl_).ownBlock.toList ++ (Value.slice sc S.L.length cc).ownBlock.toList)) w w') {v : Value} {n : Nat} {l : PL} (q : EQ IB 70 w w0.heap.size v n l) (hv : ∀ j, v.ownBlock = some j → wp.heap.size ≤ j) {sl2 cl2 sc2 cc2} (R2 : RoI w' w0.heap.size g1 sl2 cl2 sc2 cc2 S1) : PJ w0 w' g0 g1 S1 ∧ EQ IB 70 w' w0.heap.size v n l :=
  ⟨⟨sa, cv, H, sl2, cl2, sc2, cc2, BufA.off R hg T A, R2, hg⟩, Rp.told R T q hv⟩
theorem BufA.notin {w0 w : World} {g0 sa cv S H} (h : BufA w0 w g0 sa cv S H) {go : Nat} {c : Array Value} {T : TypeId} (hgo : HpB w go (.cells c T)) (h1 : T ≠ 128) (h2 : T ≠ 131) : go ∉ g0 :: (Value.slice sa S.L.length cv).ownBlock.toList := fun hm => by
  rcases List.mem_cons.1 hm with rfl | hm
  · have e : some (Obj.cells _ _ _) = some (Obj.cells _ _ _) := hgo.symm.trans h.i.hp
    simp only [Option.some.injEq, Obj.cells.injEq] at e
    exact h1 e.2.1
  · exact h.i.eq.ne hgo h2 go (by simpa using hm) rfl
theorem RoI.notin {w : World} {base g1 sl cl_ sc cc S} (h : RoI w base g1 sl cl_ sc cc S) {go : Nat} {c : Array Value} {T : TypeId} (hgo : HpB w go (.cells c T)) (h1 : T ≠ 86) (h2 : T ≠ 70) (h3 : T ≠ 2) : go ∉ g1 :: ((Value.slice sl S.L.length cl_).ownBlock.toList ++ (Value.slice sc S.L.length cc).ownBlock.toList) := fun hm => by
  rcases List.mem_cons.1 hm with rfl | hm
  · have e : some (Obj.cells _ _ _) = some (Obj.cells _ _ _) := hgo.symm.trans h.hp
    simp only [Option.some.injEq, Obj.cells.injEq] at e
    exact h1 e.2.1
  rcases List.mem_append.1 hm with hm | hm
  · exact h.l.ne hgo h2 go (by simpa using hm) rfl
  · exact h.c.ne hgo h3 go (by simpa using hm) rfl
theorem flush_len : ∀ (k : Nat) (S : BS), (flushS k S).2.length ≤ S.L.length
  | 0, S => Nat.zero_le _
  | k + 1, S => by
    unfold flushS
    by_cases hp : 0 < S.L.length
    · rw [if_pos hp]
      have hl := take_len hp
      have := flush_len k (takeS S)
      show ((S.top.i, S.top.b) :: (flushS k (takeS S)).2).length ≤ _
      rw [List.length_cons]; omega
    · rw [if_neg hp]
      exact Nat.zero_le _
theorem tick_len (tick : Int) : ∀ (k : Nat) (S : BS), (tickS tick k S).2.length ≤ S.L.length
  | 0, S => Nat.zero_le _
  | k + 1, S => by
    unfold tickS
    cases hm : mayS S tick with
    | false => exact Nat.zero_le _
    | true =>
      have hl := take_len (may_pos hm)
      have := tick_len tick k (takeS S)
      show ((S.top.i, S.top.b) :: (tickS tick k (takeS S)).2).length ≤ _
      rw [List.length_cons]; omega
theorem put_len (i tick : Int) (b : List Nat) (S : BS) : (putS i tick b S).2.1.length ≤ S.L.length + 1 := by
  unfold putS
  split
  · exact Nat.zero_le _
  split
  · exact Nat.zero_le _
  · have h := tick_len tick (addS (if S.next < 0 then { S with next := i } else S) ⟨i, b, tick⟩).L.length (addS (if S.next < 0 then { S with next := i } else S) ⟨i, b, tick⟩)
    have h2 : (addS (if S.next < 0 then { S with next := i } else S) ⟨i, b, tick⟩).L.length = S.L.length + 1 := by
      show ((if S.next < 0 then { S with next := i } else S : BS).L ++ [_]).length = _
      split <;> simp
    rw [h2] at h
    dsimp only
    rw [h2]
    exact h
set_option maxRecDepth 100000 in
set_option maxHeartbeats 8000000 in
theorem law_replays (mn wt : Int) (a : Option Addr) (len cap : Nat) (w : World) (wm : (Lit.int .i64 mn).wf = true) (ww : (Lit.int .i64 wt).wf = true) (wl : Rd w (.loop ropTy) [.slice a len cap]) :
    Calls Try.prog 11 #[.int .i64 mn, .int .i64 wt, .slice a len cap] w fun e w' => e = .returned (.bool true) ∧ Below w.heap.size w w' := by
  obtain ⟨m0, m1⟩ := bounds_i64 wm
  obtain ⟨t0, t1⟩ := bounds_i64 ww
  obtain ⟨hlc, hcm, hops⟩ := rop_at wl
  unfold maxLen at hcm
  clear wm ww wl
  have ha := Lib.hid (re_alive w)
  replace hops := Lib.hid hops
  go_enter Try.func11, Try.ntmps11
  go_wp2_with fail
  refine Calls.mono ha.out ?_
  rintro e w1 ⟨rfl, B1⟩
  clear ha
  dsimp only
  by_cases hbad : mn < 1 ∨ 64 < mn ∨ wt < 0
  · have cN := Lib.hid (bnew_no mn wt hbad w1)
    have c1 := Lib.hid (nilNext_any w1)
    have c2 := Lib.hid (nilWaits_any w1)
    have c3 := Lib.hid (nilPassed_any w1)
    have c4 := Lib.hid (nilDropped_any w1)
    have c5 := Lib.hid (nilTick_any 0 w1)
    have c6 := Lib.hid (nilFlush_any w1)
    replace B1 := Lib.hid B1
    go_wp2_with fail
    refine Calls.mono cN.out ?_
    rintro e w2 ⟨rfl, rfl⟩
    clear cN
    dsimp only
    by_cases h1 : mn < 1
    · have d1 : decide (mn < 1) = true := by simpa using h1
      go_wp2_with (first | (go_at_call 39; refine c1.out.mono ?_; rintro e w8 ⟨rfl, rfl⟩; clear c1) | (go_at_call 37; refine c2.out.mono ?_; rintro e w8 ⟨rfl, rfl⟩; clear c2) | (go_at_call 38; refine c3.out.mono ?_; rintro e w8 ⟨rfl, rfl⟩; clear c3) | (go_at_call 40; refine c4.out.mono ?_; rintro e w8 ⟨rfl, rfl⟩; clear c4) | (go_at_call 41; refine c5.out.mono ?_; rintro e w8 ⟨rfl, rfl⟩; clear c5) | (go_at_call 42; refine c6.out.mono ?_; rintro e w8 ⟨rfl, rfl⟩; clear c6))
      go_ret
      exact ⟨rfl, B1.out⟩
    have d1 : decide (mn < 1) = false := by simpa using h1
    by_cases h2 : 64 < mn
    · have d2 : decide (64 < mn) = true := by simpa using h2
      go_wp2_with (first | (go_at_call 39; refine c1.out.mono ?_; rintro e w8 ⟨rfl, rfl⟩; clear c1) | (go_at_call 37; refine c2.out.mono ?_; rintro e w8 ⟨rfl, rfl⟩; clear c2) | (go_at_call 38; refine c3.out.mono ?_; rintro e w8 ⟨rfl, rfl⟩; clear c3) | (go_at_call 40; refine c4.out.mono ?_; rintro e w8 ⟨rfl, rfl⟩; clear c4) | (go_at_call 41; refine c5.out.mono ?_; rintro e w8 ⟨rfl, rfl⟩; clear c5) | (go_at_call 42; refine c6.out.mono ?_; rintro e w8 ⟨rfl, rfl⟩; clear c6))
      go_ret
      exact ⟨rfl, B1.out⟩
    have d2 : decide (64 < mn) = false := by simpa using h2
    have d3 : decide (wt < 0) = true := by simp; omega
    go_wp2_with (first | (go_at_call 39; refine c1.out.mono ?_; rintro e w8 ⟨rfl, rfl⟩; clear c1) | (go_at_call 37; refine c2.out.mono ?_; rintro e w8 ⟨rfl, rfl⟩; clear c2) | (go_at_call 38; refine c3.out.mono ?_; rintro e w8 ⟨rfl, rfl⟩; clear c3) | (go_at_call 40; refine c4.out.mono ?_; rintro e w8 ⟨rfl, rfl⟩; clear c4) | (go_at_call 41; refine c5.out.mono ?_; rintro e w8 ⟨rfl, rfl⟩; clear c5) | (go_at_call 42; refine c6.out.mono ?_; rintro e w8 ⟨rfl, rfl⟩; clear c6))
    go_ret
    exact ⟨rfl, B1.out⟩
  have d1 : decide (mn < 1) = false := by simp; omega
  have d2 : decide (64 < mn) = false := by simp; omega
  have d3 : decide (wt < 0) = false := by simp; omega
  have cN := Lib.hid (bnewA mn wt (by omega) (by omega) w w1 B1)
  have k0 := Lib.hid (bk_new mn wt (by omega) 0 (by omega))
  go_wp2_with fail
  refine Calls.mono cN.out ?_
  rintro e w2 ⟨g0, rfl, A⟩
  have cR := Lib.hid (rnew_ok mn wt w w2 A.b)
  have A2 := Lib.hid A
  clear cN A B1
  dsimp only
  go_wp2_with fail
  refine Calls.mono cR.out ?_
  rintro e w3 ⟨g1, rfl, R3, hg1, hb⟩
  have J3 : Hid (PJ w w3 g0 g1 (newS mn wt)) := Lib.hid ⟨_, _, _, _, _, _, _, A2.out.bw hb, R3, hg1⟩
  clear cR R3 hg1 hb A2 d1 d2 d3
  dsimp only
  go_upto_region 10 with (fail)
  go_loopg [9] len (fun m' i wx => ∃ (j : Nat) (S : BS), m' = len - j ∧ j ≤ len ∧ j ≤ 80 ∧ i = .int .i64 (j : Nat) ∧ Hid (BK S mn (j : Nat)) ∧ Hid (PJ w wx g0 g1 S))
  case atStart => exact ⟨0, newS mn wt, by omega, by omega, by omega, rfl, k0, J3⟩
  case round =>
    clear J3 k0
    obtain ⟨j, S, rfl, hj, hj8, rfl, K, J⟩ := hrel
    by_cases hjl : j < len
    case neg =>
      have B := Lib.hid J.out.b
      have d1 : decide ((j : Int) < (len : Int)) = false := by simp; omega
      go_wp2_with fail
      go_ret
      exact ⟨rfl, B.out⟩
    have d1 : decide ((j : Int) < (len : Int)) = true := by simp; omega
    by_cases hj1 : j < 80
    case neg =>
      have B := Lib.hid J.out.b
      have d2 : decide ((j : Int) < 80) = false := by simp; omega
      go_wp2_with fail
      go_ret
      exact ⟨rfl, B.out⟩
    have d2 : decide ((j : Int) < 80) = true := by simp; omega
    rcases hops.out with h | ⟨b, o, rfl, hbw, hii⟩
    · omega
    obtain ⟨kd, i, tk, sv, n, cp, l, e0, e1, e2, e3, hv, hn1, hn2, hk0, hk1, -, -, -, -⟩ := hii j hjl
    clear hops hii
    unfold maxLen at hn2
    have B := J.out.b
    have x0 := B.cell e0
    have x1 := B.cell e1
    have x2 := B.cell e2
    have x3 := B.cell e3
    have WA : BW wr (wr.alloc (.cells #[.int .u8 kd, .int .i64 i, .int .i64 tk, .slice sv n cp] 65)) := (BW.refl wr).alloc
    have XA := Lib.hid (HpB.new wr (.cells #[.int .u8 kd, .int .i64 i, .int .i64 tk, .slice sv n cp] 65))
    have JA := Lib.hid (J.out.bw WA)
    have hV := Lib.hid (hv.bw (B.trans WA))
    have hV0 := Lib.hid hv
    clear e0 e1 e2 e3 hv B J
    replace WA := Lib.hid WA
    go_upto_region 13 with (fail)
    generalize wr.alloc (.cells #[.int .u8 kd, .int .i64 i, .int .i64 tk, .slice sv n cp] 65) = w4 at *
    generalize wr.heap.size = go at *
    clear x0 x1 x2 x3
    have z0 := (hp_cell XA.out 0).trans (show _ = some (.int .u8 kd) from rfl)
    have z1 := (hp_cell XA.out 1).trans (show _ = some (.int .i64 i) from rfl)
    have z2 := (hp_cell XA.out 2).trans (show _ = some (.int .i64 tk) from rfl)
    have z3 := (hp_cell XA.out 3).trans (show _ = some (.slice sv n cp) from rfl)
    by_cases h1 : 1152921504606846976 < i
    · have d3 : decide (1152921504606846976 < i) = true := by simpa using h1
      have B := Lib.hid JA.out.b
      go_wp2_with fail
      go_ret
      exact ⟨rfl, B.out⟩
    have d3 : decide (1152921504606846976 < i) = false := by simpa using h1
    by_cases h2 : 1152921504606846976 < tk
    · have d4 : decide (1152921504606846976 < tk) = true := by simpa using h2
      have B := Lib.hid JA.out.b
      go_wp2_with fail
      go_ret
      exact ⟨rfl, B.out⟩
    have d4 : decide (1152921504606846976 < tk) = false := by simpa using h2
    by_cases h3 : tk < -1152921504606846976
    · have d5 : decide (tk < -1152921504606846976) = true := by simpa using h3
      have B := Lib.hid JA.out.b
      go_wp2_with fail
      go_ret
      exact ⟨rfl, B.out⟩
    have d5 : decide (tk < -1152921504606846976) = false := by simpa using h3
    by_cases hn : 300 < n
    · have d6 : decide ((300 : Int) < (n : Int)) = true := by simp; omega
      have B := Lib.hid JA.out.b
      go_wp2_with fail
      go_ret
      exact ⟨rfl, B.out⟩
    have d6 : decide ((300 : Int) < (n : Int)) = false := by simp; omega
    have hrm := K.out.rm
    have hmn : mn ≤ 64 := by omega
    obtain ⟨sa, cv, H, sl, cl_, sc, cc, A, R, hg1⟩ := JA.out
    have A4 := Lib.hid A
    have R4 := Lib.hid R
    have B0 := Lib.hid A.b
    clear A R JA
    replace hg1 := Lib.hid hg1
    by_cases h3 : kd % 5 = 3
    · have d7 : (kd % 5 == 3) = true := by simpa using h3
      obtain ⟨RR, hR⟩ : ∃ RR, tickS tk S.L.length S = RR := ⟨_, rfl⟩
      obtain ⟨S1, l1⟩ := RR
      have hKK := tick_bk tk S mn (j : Nat) K.out
      rw [hR] at hKK
      have K1 : Hid (BK S1 mn ((j + 1 : Nat) : Int)) := Lib.hid (hKK.1.up (by push_cast; omega))
      obtain ⟨k, hkl⟩ : ∃ k, l1.length = k := ⟨_, rfl⟩
      have hk10 : k ≤ 1000 := by
        have := (tick_ok tk S.L.length S K.out.ok).2.2.2.2.2
        rw [hR] at this
        dsimp only at this
        omega
      have hok := Lib.hid K.out.ok
      have c1 := Lib.hid (fun (y : World) (Y : BW w4 y) => tickA g0 cv sa S H tk (by omega) (by omega) w y (A4.out.bw Y) S1 l1 k hR hkl)
      have hSl : S.L.length ≤ 1000 := by omega
      clear hKK hrm K
      replace hR := Lib.hid hR
      replace hkl := Lib.hid hkl
      replace hSl := Lib.hid hSl
      obtain ⟨SS, hSS⟩ : ∃ SS, (g0 :: (Value.slice sa S.L.length cv).ownBlock.toList) ++ (g1 :: ((Value.slice sl S.L.length cl_).ownBlock.toList ++ (Value.slice sc S.L.length cc).ownBlock.toList)) = SS := ⟨_, rfl⟩
      have hS0 : Hid (∀ k ∈ g0 :: (Value.slice sa S.L.length cv).ownBlock.toList, k ∈ SS) := Lib.hid (fun k hk => by rw [← hSS]; exact List.mem_append_left _ hk)
      have hS1 : Hid (∀ k ∈ g1 :: ((Value.slice sl S.L.length cl_).ownBlock.toList ++ (Value.slice sc S.L.length cc).ownBlock.toList), k ∈ SS) := Lib.hid (fun k hk => by rw [← hSS]; exact List.mem_append_right _ hk)
      have hgo : go ∉ SS := by
        rw [← hSS]
        intro hm
        rcases List.mem_append.1 hm with hm | hm
        · exact A4.out.notin XA.out (by decide) (by decide) hm
        · exact R4.out.notin XA.out (by decide) (by decide) (by decide) hm
      have m2 : ∀ y : LaterS [] w4, _ := fun y => y.bw.cell z2
      have m2s : ∀ y : LaterS SS w4, _ := fun y => y.cell z2 hgo
      replace hgo := Lib.hid hgo
      replace hSS := Lib.hid hSS
      go_upto_region 21 with (fail)
      refine wp_region_gg (SS) [3, 7] [] (by kernel_rfl) ?_
      refine hoist [] [3, 7] (a1 := ?_) 0 rfl (by kernel_rfl) (.inl ⟨rfl, rfl⟩) rfl rfl rfl (fun x K hK => ?_) ?_
      rotate_left
      · go_big_quiet_op
        exact hK
      refine hoist [] [3, 7] (a1 := ?_) 1 rfl (by kernel_rfl) (.inl ⟨rfl, rfl⟩) rfl rfl rfl (fun x K hK => ?_) ?_
      rotate_left
      · go_big_quiet_op
        exact hK
      refine hoist [] [3, 7] (a1 := ?_) 2 rfl (by kernel_rfl) (.inl ⟨rfl, rfl⟩) rfl rfl rfl (fun x K hK => ?_) ?_
      rotate_left
      · go_big_quiet_op
        exact hK
      refine hoist (SS) [] (a1 := ?_) 4 rfl (by kernel_rfl) (.inr rfl) rfl rfl rfl (fun x K hK => ?_) ?_
      rotate_left
      · go_big_quiet_op
        exact hK
      refine hoist (SS) [] (a1 := ?_) 5 rfl (by kernel_rfl) (.inr rfl) rfl rfl rfl (fun x K hK => ?_) ?_
      rotate_left
      · go_big_quiet_op
        exact hK
      refine hoist (SS) [] (a1 := ?_) 6 rfl (by kernel_rfl) (.inr rfl) rfl rfl rfl (fun x K hK => ?_) ?_
      rotate_left
      · go_big_quiet_op
        exact hK
      refine effect 3 rfl (by kernel_rfl) (by kernel_rfl) rfl (fun x3 K hK => ?_)
      go_simp
      refine Calls.mono (c1.out x3.now x3.bw) ?_
      rintro e w5 ⟨H5, so, co, rfl, Q5, A5, T5, G5⟩
      refine hK _ _ (T5.weaken hS0.out) ?_
      clear hK K
      have Rp := Lib.hid (R4.out.bw x3.bw)
      have R5 := Lib.hid (RoI.off (A4.out.bw x3.bw) T5 (R4.out.bw x3.bw))
      replace Q5 := Lib.hid Q5
      replace A5 := Lib.hid A5
      replace G5 := Lib.hid G5
      clear T5 c1
      try simp only [Act.put, List.setIfInBounds_toArray, List.set_cons_succ, List.set_cons_zero]
      refine effect 7 rfl (by kernel_rfl) (by kernel_rfl) rfl (fun x7 K hK => ?_)
      go_simp
      have hb7 := Nat.le_trans A5.out.b.size x7.bw.size
      refine Calls.mono (rtick_any w.heap.size g1 sl cl_ sc cc S tk (by omega) hSl.out x7.now hb7 (R5.out.bw x7.bw) hok.out) ?_
      rw [hR.out]
      rintro e w7 ⟨sl2, cl2, sc2, cc2, so2, co2, rfl, Q7, R7, T7⟩
      dsimp only at Q7 R7 ⊢
      rw [hkl.out] at Q7 ⊢
      have T7' : Still (g1 :: ((Value.slice sl S.L.length cl_).ownBlock.toList ++ (Value.slice sc S.L.length cc).ownBlock.toList)) x7.now w7 := T7.weaken (fun k hk => by obtain rfl : k = g1 := (by simpa using hk); exact List.mem_cons_self)
      refine hK _ _ (T7'.weaken hS1.out) ?_
      clear hK K
      obtain ⟨J7, Q8⟩ := PJ.to (A5.out.bw x7.bw) Rp.out (R5.out.bw x7.bw) hg1.out T7' (Q5.out.bw x7.bw) G5.out R7
      replace J7 := Lib.hid J7
      replace Q7 := Lib.hid Q7
      replace Q8 := Lib.hid Q8
      clear T7 T7' R7 R5 A5 Q5 G5 Rp hb7
      try simp only [Act.put, List.setIfInBounds_toArray, List.set_cons_succ, List.set_cons_zero]
      refine effect 8 rfl (by kernel_rfl) (by kernel_rfl) rfl (fun x8 K hK => ?_)
      go_simp
      refine Calls.mono (rsame_any w.heap.size so so2 co co2 k l1 (by omega) x8.now (Q8.out.bw x8.bw) (Q7.out.bw x8.bw)) ?_
      rintro e w8 ⟨rfl, hb⟩
      refine hK _ _ (hb.still _) ?_
      clear hK K
      replace J7 := Lib.hid (J7.out.bw (x8.bw.trans hb))
      clear Q7 Q8 hb
      try simp only [Act.put, List.setIfInBounds_toArray, List.set_cons_succ, List.set_cons_zero]
      refine hoist [] [3, 7] (a1 := ?_) 9 rfl (by kernel_rfl) (.inl ⟨rfl, rfl⟩) rfl rfl rfl (fun x K hK => ?_) ?_
      rotate_left
      · go_big_quiet_op
        exact hK
      refine done (by kernel_rfl) (fun xr => ?_)
      have J8 := Lib.hid (J7.out.bw xr.bw)
      clear J7 m2 m2s hS0 hS1 hgo hSS A4 R4
      generalize xr.now = w9 at *
      obtain ⟨sa9, cv9, H9, sl9, cl9, sc9, cc9, A9, R9, -⟩ := J8.out
      have c1 := Lib.hid (fun (y : World) (Y : BW w9 y) => next_any w.heap.size g0 cv9 sa9 S1 H9 y (A9.i.bw Y))
      have c2 := Lib.hid (fun (y : World) (Y : BW w9 y) => waits_any w.heap.size g0 cv9 sa9 S1 H9 y (A9.i.bw Y))
      have c3 := Lib.hid (fun (y : World) (Y : BW w9 y) => passed_any w.heap.size g0 cv9 sa9 S1 H9 y (A9.i.bw Y))
      have c4 := Lib.hid (fun (y : World) (Y : BW w9 y) => dropped_any w.heap.size g0 cv9 sa9 S1 H9 y (A9.i.bw Y))
      have p2 := (hp_cell R9.hp 2).trans (show _ = some (.int .i64 S1.next) from rfl)
      have p3 := (hp_cell R9.hp 3).trans (show _ = some (.slice sl9 S1.L.length cl9) from rfl)
      have p5 := (hp_cell R9.hp 5).trans (show _ = some (.int .i64 S1.passed) from rfl)
      have p6 := (hp_cell R9.hp 6).trans (show _ = some (.int .i64 S1.dropped) from rfl)
      obtain ⟨_, _, he9, hl9, hm9⟩ := R9.l.len
      cases he9
      unfold maxLen at hm9
      have n2 : ∀ y : LaterS [] w9, _ := fun y => y.bw.cell p2
      clear A9 R9
      replace p2 := Lib.hid p2
      replace p3 := Lib.hid p3
      replace p5 := Lib.hid p5
      replace p6 := Lib.hid p6
      generalize S1.L.length = ln9 at *
      generalize S1.next = nx9 at *
      generalize S1.passed = pa9 at *
      generalize S1.dropped = dr9 at *
      go_upto_region 26 with (fail)
      refine wp_region_gg [] [] [] (by kernel_rfl) ?_
      refine hoist [] [] (a1 := ?_) 0 rfl (by kernel_rfl) (.inl ⟨rfl, rfl⟩) rfl rfl rfl (fun x K hK => ?_) ?_
      rotate_left
      · go_big_quiet_op
        exact hK
      refine hoist [] [] (a1 := ?_) 2 rfl (by kernel_rfl) (.inl ⟨rfl, rfl⟩) rfl rfl rfl (fun x K hK => ?_) ?_
      rotate_left
      · go_big_quiet_op
        exact hK
      refine hoist [] [] (a1 := ?_) 3 rfl (by kernel_rfl) (.inl ⟨rfl, rfl⟩) rfl rfl rfl (fun x K hK => ?_) ?_
      rotate_left
      · go_big_quiet_op
        exact hK
      refine hoist [] [] (a1 := ?_) 4 rfl (by kernel_rfl) (.inl ⟨rfl, rfl⟩) rfl rfl rfl (fun x K hK => ?_) ?_
      rotate_left
      · go_big_quiet_op
        exact hK
      refine hoist [] [] (a1 := ?_) 5 rfl (by kernel_rfl) (.inl ⟨rfl, rfl⟩) rfl rfl rfl (fun x K hK => ?_) ?_
      rotate_left
      · go_big_quiet_op
        exact hK
      refine effect 1 rfl (by kernel_rfl) (by kernel_rfl) rfl (fun x1 K hK => ?_)
      go_simp
      refine Calls.mono (c1.out x1.now x1.bw) ?_
      rintro e wq ⟨rfl, rfl⟩
      refine hK _ _ ((BW.refl _).still _) ?_
      clear hK K
      have b1 := Lib.hid x1.bw
      have n2b : ∀ y : LaterS [] x1.now, _ := fun y => y.bw.cell (b1.out.cell p2.out)
      have n3 : ∀ y : LaterS [] x1.now, _ := fun y => y.bw.cell (b1.out.cell p3.out)
      try simp only [Act.put, List.setIfInBounds_toArray, List.set_cons_succ, List.set_cons_zero]
      refine hoist [] [] (a1 := ?_) 6 rfl (by kernel_rfl) (.inl ⟨rfl, rfl⟩) rfl rfl rfl (fun x K hK => ?_) ?_
      rotate_left
      · go_big_quiet_op
        exact hK
      refine hoist [] [] (a1 := ?_) 7 rfl (by kernel_rfl) (.inl ⟨rfl, rfl⟩) rfl rfl rfl (fun x K hK => ?_) ?_
      rotate_left
      · go_big_quiet_op
        exact hK
      refine hoist [] [] (a1 := ?_) 8 rfl (by kernel_rfl) (.inl ⟨rfl, rfl⟩) rfl rfl rfl (fun x K hK => ?_) ?_
      rotate_left
      · go_big_quiet_op
        exact hK
      refine hoist [] [] (a1 := ?_) 10 rfl (by kernel_rfl) (.inl ⟨rfl, rfl⟩) rfl rfl rfl (fun x K hK => ?_) ?_
      rotate_left
      · go_big_quiet_op
        exact hK
      refine hoist [] [] (a1 := ?_) 11 rfl (by kernel_rfl) (.inl ⟨rfl, rfl⟩) rfl rfl rfl (fun x K hK => ?_) ?_
      rotate_left
      · go_big_quiet_op
        exact hK
      refine hoist [] [] (a1 := ?_) 12 rfl (by kernel_rfl) (.inl ⟨rfl, rfl⟩) rfl rfl rfl (fun x K hK => ?_) ?_
      rotate_left
      · go_big_quiet_op
        exact hK
      refine hoist [] [] (a1 := ?_) 13 rfl (by kernel_rfl) (.inl ⟨rfl, rfl⟩) rfl rfl rfl (fun x K hK => ?_) ?_
      rotate_left
      · go_big_quiet_op
        exact hK
      refine hoist [] [] (a1 := ?_) 14 rfl (by kernel_rfl) (.inl ⟨rfl, rfl⟩) rfl rfl rfl (fun x K hK => ?_) ?_
      rotate_left
      · go_big_quiet_op
        exact hK
      refine effect 9 rfl (by kernel_rfl) (by kernel_rfl) rfl (fun x9 K hK => ?_)
      go_simp
      refine Calls.mono (c2.out x9.now (b1.out.trans x9.bw)) ?_
      rintro e wq ⟨rfl, rfl⟩
      refine hK _ _ ((BW.refl _).still _) ?_
      clear hK K
      have b9 := Lib.hid (b1.out.trans x9.bw)
      have n3b : ∀ y : LaterS [] x9.now, _ := fun y => y.bw.cell (b9.out.cell p3.out)
      have n5 : ∀ y : LaterS [] x9.now, _ := fun y => y.bw.cell (b9.out.cell p5.out)
      try simp only [Act.put, List.setIfInBounds_toArray, List.set_cons_succ, List.set_cons_zero]
      refine hoist [] [] (a1 := ?_) 15 rfl (by kernel_rfl) (.inl ⟨rfl, rfl⟩) rfl rfl rfl (fun x K hK => ?_) ?_
      rotate_left
      · go_big_quiet_op
        exact hK
      refine hoist [] [] (a1 := ?_) 16 rfl (by kernel_rfl) (.inl ⟨rfl, rfl⟩) rfl rfl rfl (fun x K hK => ?_) ?_
      rotate_left
      · go_big_quiet_op
        exact hK
      refine hoist [] [] (a1 := ?_) 17 rfl (by kernel_rfl) (.inl ⟨rfl, rfl⟩) rfl rfl rfl (fun x K hK => ?_) ?_
      rotate_left
      · go_big_quiet_op
        exact hK
      refine hoist [] [] (a1 := ?_) 18 rfl (by kernel_rfl) (.inl ⟨rfl, rfl⟩) rfl rfl rfl (fun x K hK => ?_) ?_
      rotate_left
      · go_big_quiet_op
        exact hK
      refine hoist [] [] (a1 := ?_) 20 rfl (by kernel_rfl) (.inl ⟨rfl, rfl⟩) rfl rfl rfl (fun x K hK => ?_) ?_
      rotate_left
      · go_big_quiet_op
        exact hK
      refine hoist [] [] (a1 := ?_) 21 rfl (by kernel_rfl) (.inl ⟨rfl, rfl⟩) rfl rfl rfl (fun x K hK => ?_) ?_
      rotate_left
      · go_big_quiet_op
        exact hK
      refine hoist [] [] (a1 := ?_) 22 rfl (by kernel_rfl) (.inl ⟨rfl, rfl⟩) rfl rfl rfl (fun x K hK => ?_) ?_
      rotate_left
      · go_big_quiet_op
        exact hK
      refine hoist [] [] (a1 := ?_) 23 rfl (by kernel_rfl) (.inl ⟨rfl, rfl⟩) rfl rfl rfl (fun x K hK => ?_) ?_
      rotate_left
      · go_big_quiet_op
        exact hK
      refine effect 19 rfl (by kernel_rfl) (by kernel_rfl) rfl (fun x19 K hK => ?_)
      go_simp
      refine Calls.mono (c3.out x19.now (b9.out.trans x19.bw)) ?_
      rintro e wq ⟨rfl, rfl⟩
      refine hK _ _ ((BW.refl _).still _) ?_
      clear hK K
      have b19 := Lib.hid (b9.out.trans x19.bw)
      have n5b : ∀ y : LaterS [] x19.now, _ := fun y => y.bw.cell (b19.out.cell p5.out)
      have n6 : ∀ y : LaterS [] x19.now, _ := fun y => y.bw.cell (b19.out.cell p6.out)
      try simp only [Act.put, List.setIfInBounds_toArray, List.set_cons_succ, List.set_cons_zero]
      refine hoist [] [] (a1 := ?_) 24 rfl (by kernel_rfl) (.inl ⟨rfl, rfl⟩) rfl rfl rfl (fun x K hK => ?_) ?_
      rotate_left
      · go_big_quiet_op
        exact hK
      refine hoist [] [] (a1 := ?_) 25 rfl (by kernel_rfl) (.inl ⟨rfl, rfl⟩) rfl rfl rfl (fun x K hK => ?_) ?_
      rotate_left
      · go_big_quiet_op
        exact hK
      refine hoist [] [] (a1 := ?_) 26 rfl (by kernel_rfl) (.inl ⟨rfl, rfl⟩) rfl rfl rfl (fun x K hK => ?_) ?_
      rotate_left
      · go_big_quiet_op
        exact hK
      refine hoist [] [] (a1 := ?_) 27 rfl (by kernel_rfl) (.inl ⟨rfl, rfl⟩) rfl rfl rfl (fun x K hK => ?_) ?_
      rotate_left
      · go_big_quiet_op
        exact hK
      refine hoist [] [] (a1 := ?_) 29 rfl (by kernel_rfl) (.inl ⟨rfl, rfl⟩) rfl rfl rfl (fun x K hK => ?_) ?_
      rotate_left
      · go_big_quiet_op
        exact hK
      refine hoist [] [] (a1 := ?_) 30 rfl (by kernel_rfl) (.inl ⟨rfl, rfl⟩) rfl rfl rfl (fun x K hK => ?_) ?_
      rotate_left
      · go_big_quiet_op
        exact hK
      refine hoist [] [] (a1 := ?_) 31 rfl (by kernel_rfl) (.inl ⟨rfl, rfl⟩) rfl rfl rfl (fun x K hK => ?_) ?_
      rotate_left
      · go_big_quiet_op
        exact hK
      refine hoist [] [] (a1 := ?_) 32 rfl (by kernel_rfl) (.inl ⟨rfl, rfl⟩) rfl rfl rfl (fun x K hK => ?_) ?_
      rotate_left
      · go_big_quiet_op
        exact hK
      refine effect 28 rfl (by kernel_rfl) (by kernel_rfl) rfl (fun x28 K hK => ?_)
      go_simp
      refine Calls.mono (c4.out x28.now (b19.out.trans x28.bw)) ?_
      rintro e wq ⟨rfl, rfl⟩
      refine hK _ _ ((BW.refl _).still _) ?_
      clear hK K
      have b28 := Lib.hid (b19.out.trans x28.bw)
      have n6b : ∀ y : LaterS [] x28.now, _ := fun y => y.bw.cell (b28.out.cell p6.out)
      try simp only [Act.put, List.setIfInBounds_toArray, List.set_cons_succ, List.set_cons_zero]
      refine hoist [] [] (a1 := ?_) 33 rfl (by kernel_rfl) (.inl ⟨rfl, rfl⟩) rfl rfl rfl (fun x K hK => ?_) ?_
      rotate_left
      · go_big_quiet_op
        exact hK
      refine hoist [] [] (a1 := ?_) 34 rfl (by kernel_rfl) (.inl ⟨rfl, rfl⟩) rfl rfl rfl (fun x K hK => ?_) ?_
      rotate_left
      · go_big_quiet_op
        exact hK
      refine done (by kernel_rfl) (fun xr => ?_)
      have JR := Lib.hid (J8.out.bw (b28.out.trans xr.bw))
      clear J8 n2 n2b n3 n3b n5 n5b n6 n6b b1 b9 b19 b28 c1 c2 c3 c4 p2 p3 p5 p6
      generalize xr.now = w30 at *
      go_wp2_with fail
      go_roundg (len - (j + 1))
      case measure => omega
      case rel => exact ⟨j + 1, S1, rfl, by omega, by omega, by push_cast; rfl, K1, JR⟩
    have d7 : (kd % 5 == 3) = false := by simpa using h3
    by_cases h4 : kd % 5 = 4
    · have d8 : (kd % 5 == 4) = true := by simpa using h4
      obtain ⟨RR, hR⟩ : ∃ RR, flushS S.L.length S = RR := ⟨_, rfl⟩
      obtain ⟨S1, l1⟩ := RR
      have hKK := flush_bk S mn (j : Nat) K.out
      rw [hR] at hKK
      have K1 : Hid (BK S1 mn ((j + 1 : Nat) : Int)) := Lib.hid (hKK.1.up (by push_cast; omega))
      obtain ⟨k, hkl⟩ : ∃ k, l1.length = k := ⟨_, rfl⟩
      have hk10 : k ≤ 1000 := by
        have := flush_len S.L.length S
        rw [hR] at this
        dsimp only at this
        omega
      have hok := Lib.hid K.out.ok
      have hSl : S.L.length ≤ 1000 := by omega
      have c1 := Lib.hid (flushA g0 cv sa S H hSl w w4 A4.out S1 l1 k hR hkl)
      clear hKK hrm K
      replace hR := Lib.hid hR
      replace hkl := Lib.hid hkl
      replace hSl := Lib.hid hSl
      go_wp2_with fail
      refine Calls.mono c1.out ?_
      rintro e w5 ⟨H5, so, co, rfl, Q5, A5, T5, G5⟩
      have R5 := Lib.hid (RoI.off A4.out T5 R4.out)
      have c2 := Lib.hid (rflush_any w.heap.size g1 sl cl_ sc cc S hSl.out w5 A5.b.size R5.out hok.out)
      rw [hR.out] at c2
      replace Q5 := Lib.hid Q5
      replace A5 := Lib.hid A5
      replace G5 := Lib.hid G5
      clear T5 c1 d1 d2 d3 d4 d5 d6
      dsimp only at c2 ⊢
      go_wp2_with fail
      refine Calls.mono c2.out ?_
      rintro e w7 ⟨sl2, cl2, sc2, cc2, so2, co2, rfl, Q7, R7, T7⟩
      rw [hkl.out] at Q7 ⊢
      have T7' : Still (g1 :: ((Value.slice sl S.L.length cl_).ownBlock.toList ++ (Value.slice sc S.L.length cc).ownBlock.toList)) w5 w7 := T7.weaken (fun k hk => by obtain rfl : k = g1 := (by simpa using hk); exact List.mem_cons_self)
      obtain ⟨J7, Q8⟩ := PJ.to A5.out R4.out R5.out hg1.out T7' Q5.out G5.out R7
      have c3 := Lib.hid (rsame_any w.heap.size so so2 co co2 k l1 (by omega) w7 Q8 Q7)
      replace J7 := Lib.hid J7
      clear T7 T7' R7 R5 A5 Q5 G5 c2 Q7 Q8
      dsimp only
      go_wp2_with fail
      refine Calls.mono c3.out ?_
      rintro e w9 ⟨rfl, hb⟩
      have J8 := Lib.hid (J7.out.bw hb)
      clear J7 c3 hb A4 R4
      dsimp only
      obtain ⟨sa9, cv9, H9, sl9, cl9, sc9, cc9, A9, R9, -⟩ := J8.out
      have c1 := Lib.hid (fun (y : World) (Y : BW w9 y) => next_any w.heap.size g0 cv9 sa9 S1 H9 y (A9.i.bw Y))
      have c2 := Lib.hid (fun (y : World) (Y : BW w9 y) => waits_any w.heap.size g0 cv9 sa9 S1 H9 y (A9.i.bw Y))
      have c3 := Lib.hid (fun (y : World) (Y : BW w9 y) => passed_any w.heap.size g0 cv9 sa9 S1 H9 y (A9.i.bw Y))
      have c4 := Lib.hid (fun (y : World) (Y : BW w9 y) => dropped_any w.heap.size g0 cv9 sa9 S1 H9 y (A9.i.bw Y))
      have p2 := (hp_cell R9.hp 2).trans (show _ = some (.int .i64 S1.next) from rfl)
      have p3 := (hp_cell R9.hp 3).trans (show _ = some (.slice sl9 S1.L.length cl9) from rfl)
      have p5 := (hp_cell R9.hp 5).trans (show _ = some (.int .i64 S1.passed) from rfl)
      have p6 := (hp_cell R9.hp 6).trans (show _ = some (.int .i64 S1.dropped) from rfl)
      obtain ⟨_, _, he9, hl9, hm9⟩ := R9.l.len
      cases he9
      unfold maxLen at hm9
      have n2 : ∀ y : LaterS [] w9, _ := fun y => y.bw.cell p2
      clear A9 R9
      replace p2 := Lib.hid p2
      replace p3 := Lib.hid p3
      replace p5 := Lib.hid p5
      replace p6 := Lib.hid p6
      generalize S1.L.length = ln9 at *
      generalize S1.next = nx9 at *
      generalize S1.passed = pa9 at *
      generalize S1.dropped = dr9 at *
      go_upto_region 26 with (fail)
      refine wp_region_gg [] [] [] (by kernel_rfl) ?_
      refine hoist [] [] (a1 := ?_) 0 rfl (by kernel_rfl) (.inl ⟨rfl, rfl⟩) rfl rfl rfl (fun x K hK => ?_) ?_
      rotate_left
      · go_big_quiet_op
        exact hK
      refine hoist [] [] (a1 := ?_) 2 rfl (by kernel_rfl) (.inl ⟨rfl, rfl⟩) rfl rfl rfl (fun x K hK => ?_) ?_
      rotate_left
      · go_big_quiet_op
        exact hK
      refine hoist [] [] (a1 := ?_) 3 rfl (by kernel_rfl) (.inl ⟨rfl, rfl⟩) rfl rfl rfl (fun x K hK => ?_) ?_
      rotate_left
      · go_big_quiet_op
        exact hK
      refine hoist [] [] (a1 := ?_) 4 rfl (by kernel_rfl) (.inl ⟨rfl, rfl⟩) rfl rfl rfl (fun x K hK => ?_) ?_
      rotate_left
      · go_big_quiet_op
        exact hK
      refine hoist [] [] (a1 := ?_) 5 rfl (by kernel_rfl) (.inl ⟨rfl, rfl⟩) rfl rfl rfl (fun x K hK => ?_) ?_
      rotate_left
      · go_big_quiet_op
        exact hK
      refine effect 1 rfl (by kernel_rfl) (by kernel_rfl) rfl (fun x1 K hK => ?_)
      go_simp
      refine Calls.mono (c1.out x1.now x1.bw) ?_
      rintro e wq ⟨rfl, rfl⟩
      refine hK _ _ ((BW.refl _).still _) ?_
      clear hK K
      have b1 := Lib.hid x1.bw
      have n2b : ∀ y : LaterS [] x1.now, _ := fun y => y.bw.cell (b1.out.cell p2.out)
      have n3 : ∀ y : LaterS [] x1.now, _ := fun y => y.bw.cell (b1.out.cell p3.out)
      try simp only [Act.put, List.setIfInBounds_toArray, List.set_cons_succ, List.set_cons_zero]
      refine hoist [] [] (a1 := ?_) 6 rfl (by kernel_rfl) (.inl ⟨rfl, rfl⟩) rfl rfl rfl (fun x K hK => ?_) ?_
      rotate_left
      · go_big_quiet_op
        exact hK
      refine hoist [] [] (a1 := ?_) 7 rfl (by kernel_rfl) (.inl ⟨rfl, rfl⟩) rfl rfl rfl (fun x K hK => ?_) ?_
      rotate_left
      · go_big_quiet_op
        exact hK
      refine hoist [] [] (a1 := ?_) 8 rfl (by kernel_rfl) (.inl ⟨rfl, rfl⟩) rfl rfl rfl (fun x K hK => ?_) ?_
      rotate_left
      · go_big_quiet_op
        exact hK
      refine hoist [] [] (a1 := ?_) 10 rfl (by kernel_rfl) (.inl ⟨rfl, rfl⟩) rfl rfl rfl (fun x K hK => ?_) ?_
      rotate_left
      · go_big_quiet_op
        exact hK
      refine hoist [] [] (a1 := ?_) 11 rfl (by kernel_rfl) (.inl ⟨rfl, rfl⟩) rfl rfl rfl (fun x K hK => ?_) ?_
      rotate_left
      · go_big_quiet_op
        exact hK
      refine hoist [] [] (a1 := ?_) 12 rfl (by kernel_rfl) (.inl ⟨rfl, rfl⟩) rfl rfl rfl (fun x K hK => ?_) ?_
      rotate_left
      · go_big_quiet_op
        exact hK
      refine hoist [] [] (a1 := ?_) 13 rfl (by kernel_rfl) (.inl ⟨rfl, rfl⟩) rfl rfl rfl (fun x K hK => ?_) ?_
      rotate_left
      · go_big_quiet_op
        exact hK
      refine hoist [] [] (a1 := ?_) 14 rfl (by kernel_rfl) (.inl ⟨rfl, rfl⟩) rfl rfl rfl (fun x K hK => ?_) ?_
      rotate_left
      · go_big_quiet_op
        exact hK
      refine effect 9 rfl (by kernel_rfl) (by kernel_rfl) rfl (fun x9 K hK => ?_)
      go_simp
      refine Calls.mono (c2.out x9.now (b1.out.trans x9.bw)) ?_
      rintro e wq ⟨rfl, rfl⟩
      refine hK _ _ ((BW.refl _).still _) ?_
      clear hK K
      have b9 := Lib.hid (b1.out.trans x9.bw)
      have n3b : ∀ y : LaterS [] x9.now, _ := fun y => y.bw.cell (b9.out.cell p3.out)
      have n5 : ∀ y : LaterS [] x9.now, _ := fun y => y.bw.cell (b9.out.cell p5.out)
      try simp only [Act.put, List.setIfInBounds_toArray, List.set_cons_succ, List.set_cons_zero]
      refine hoist [] [] (a1 := ?_) 15 rfl (by kernel_rfl) (.inl ⟨rfl, rfl⟩) rfl rfl rfl (fun x K hK => ?_) ?_
      rotate_left
      · go_big_quiet_op
        exact hK
      refine hoist [] [] (a1 := ?_) 16 rfl (by kernel_rfl) (.inl ⟨rfl, rfl⟩) rfl rfl rfl (fun x K hK => ?_) ?_
      rotate_left
      · go_big_quiet_op
        exact hK
      refine hoist [] [] (a1 := ?_) 17 rfl (by kernel_rfl) (.inl ⟨rfl, rfl⟩) rfl rfl rfl (fun x K hK => ?_) ?_
      rotate_left
      · go_big_quiet_op
        exact hK
      refine hoist [] [] (a1 := ?_) 18 rfl (by kernel_rfl) (.inl ⟨rfl, rfl⟩) rfl rfl rfl (fun x K hK => ?_) ?_
      rotate_left
      · go_big_quiet_op
        exact hK
      refine hoist [] [] (a1 := ?_) 20 rfl (by kernel_rfl) (.inl ⟨rfl, rfl⟩) rfl rfl rfl (fun x K hK => ?_) ?_
      rotate_left
      · go_big_quiet_op
        exact hK
      refine hoist [] [] (a1 := ?_) 21 rfl (by kernel_rfl) (.inl ⟨rfl, rfl⟩) rfl rfl rfl (fun x K hK => ?_) ?_
      rotate_left
      · go_big_quiet_op
        exact hK
      refine hoist [] [] (a1 := ?_) 22 rfl (by kernel_rfl) (.inl ⟨rfl, rfl⟩) rfl rfl rfl (fun x K hK => ?_) ?_
      rotate_left
      · go_big_quiet_op
        exact hK
      refine hoist [] [] (a1 := ?_) 23 rfl (by kernel_rfl) (.inl ⟨rfl, rfl⟩) rfl rfl rfl (fun x K hK => ?_) ?_
      rotate_left
      · go_big_quiet_op
        exact hK
      refine effect 19 rfl (by kernel_rfl) (by kernel_rfl) rfl (fun x19 K hK => ?_)
      go_simp
      refine Calls.mono (c3.out x19.now (b9.out.trans x19.bw)) ?_
      rintro e wq ⟨rfl, rfl⟩
      refine hK _ _ ((BW.refl _).still _) ?_
      clear hK K
      have b19 := Lib.hid (b9.out.trans x19.bw)
      have n5b : ∀ y : LaterS [] x19.now, _ := fun y => y.bw.cell (b19.out.cell p5.out)
      have n6 : ∀ y : LaterS [] x19.now, _ := fun y => y.bw.cell (b19.out.cell p6.out)
      try simp only [Act.put, List.setIfInBounds_toArray, List.set_cons_succ, List.set_cons_zero]
      refine hoist [] [] (a1 := ?_) 24 rfl (by kernel_rfl) (.inl ⟨rfl, rfl⟩) rfl rfl rfl (fun x K hK => ?_) ?_
      rotate_left
      · go_big_quiet_op
        exact hK
      refine hoist [] [] (a1 := ?_) 25 rfl (by kernel_rfl) (.inl ⟨rfl, rfl⟩) rfl rfl rfl (fun x K hK => ?_) ?_
      rotate_left
      · go_big_quiet_op
        exact hK
      refine hoist [] [] (a1 := ?_) 26 rfl (by kernel_rfl) (.inl ⟨rfl, rfl⟩) rfl rfl rfl (fun x K hK => ?_) ?_
      rotate_left
      · go_big_quiet_op
        exact hK
      refine hoist [] [] (a1 := ?_) 27 rfl (by kernel_rfl) (.inl ⟨rfl, rfl⟩) rfl rfl rfl (fun x K hK => ?_) ?_
      rotate_left
      · go_big_quiet_op
        exact hK
      refine hoist [] [] (a1 := ?_) 29 rfl (by kernel_rfl) (.inl ⟨rfl, rfl⟩) rfl rfl rfl (fun x K hK => ?_) ?_
      rotate_left
      · go_big_quiet_op
        exact hK
      refine hoist [] [] (a1 := ?_) 30 rfl (by kernel_rfl) (.inl ⟨rfl, rfl⟩) rfl rfl rfl (fun x K hK => ?_) ?_
      rotate_left
      · go_big_quiet_op
        exact hK
      refine hoist [] [] (a1 := ?_) 31 rfl (by kernel_rfl) (.inl ⟨rfl, rfl⟩) rfl rfl rfl (fun x K hK => ?_) ?_
      rotate_left
      · go_big_quiet_op
        exact hK
      refine hoist [] [] (a1 := ?_) 32 rfl (by kernel_rfl) (.inl ⟨rfl, rfl⟩) rfl rfl rfl (fun x K hK => ?_) ?_
      rotate_left
      · go_big_quiet_op
        exact hK
      refine effect 28 rfl (by kernel_rfl) (by kernel_rfl) rfl (fun x28 K hK => ?_)
      go_simp
      refine Calls.mono (c4.out x28.now (b19.out.trans x28.bw)) ?_
      rintro e wq ⟨rfl, rfl⟩
      refine hK _ _ ((BW.refl _).still _) ?_
      clear hK K
      have b28 := Lib.hid (b19.out.trans x28.bw)
      have n6b : ∀ y : LaterS [] x28.now, _ := fun y => y.bw.cell (b28.out.cell p6.out)
      try simp only [Act.put, List.setIfInBounds_toArray, List.set_cons_succ, List.set_cons_zero]
      refine hoist [] [] (a1 := ?_) 33 rfl (by kernel_rfl) (.inl ⟨rfl, rfl⟩) rfl rfl rfl (fun x K hK => ?_) ?_
      rotate_left
      · go_big_quiet_op
        exact hK
      refine hoist [] [] (a1 := ?_) 34 rfl (by kernel_rfl) (.inl ⟨rfl, rfl⟩) rfl rfl rfl (fun x K hK => ?_) ?_
      rotate_left
      · go_big_quiet_op
        exact hK
      refine done (by kernel_rfl) (fun xr => ?_)
      have JR := Lib.hid (J8.out.bw (b28.out.trans xr.bw))
      clear J8 n2 n2b n3 n3b n5 n5b n6 n6b b1 b9 b19 b28 c1 c2 c3 c4 p2 p3 p5 p6
      generalize xr.now = w30 at *
      go_wp2_with fail
      go_roundg (len - (j + 1))
      case measure => omega
      case rel => exact ⟨j + 1, S1, rfl, by omega, by omega, by push_cast; rfl, K1, JR⟩
    · have d8 : (kd % 5 == 4) = false := by simpa using h4
      obtain ⟨RR, hR⟩ : ∃ RR, putS i tk l S = RR := ⟨_, rfl⟩
      obtain ⟨S1, l1, er⟩ := RR
      have hPK := (put_ok i tk l S mn (j : Nat) K.out (by omega) (by omega) (by omega)).1
      rw [hR] at hPK
      have K1 : Hid (BK S1 mn ((j + 1 : Nat) : Int)) := Lib.hid (by push_cast; exact hPK)
      obtain ⟨k, hkl⟩ : ∃ k, l1.length = k := ⟨_, rfl⟩
      have hk10 : k ≤ 1000 := by
        have := put_len i tk l S
        rw [hR] at this
        dsimp only at this
        omega
      have K0 := Lib.hid K.out
      have hnl := Lib.hid hV.out.unpack.2.2.1
      have c1 := Lib.hid (putA g0 cv n cp sa sv S S1 H i tk l l1 k er mn (j : Nat) hR hkl K.out hmn (by omega) (by omega) (by omega) hnl.out (by omega) w w4 A4.out hV.out)
      clear hPK hrm K
      replace hR := Lib.hid hR
      replace hkl := Lib.hid hkl
      go_wp2_with fail
      refine Calls.mono c1.out ?_
      rintro e w5 ⟨H5, sb5, cc5, so, co, rfl, Q5, A5, T5, G5⟩
      have R5 := Lib.hid (RoI.off A4.out T5 R4.out)
      have X5 := XA.out.st T5 (A4.out.notin XA.out (by decide) (by decide))
      have z0 := (hp_cell X5 0).trans (show _ = some (.int .u8 kd) from rfl)
      have z1 := (hp_cell X5 1).trans (show _ = some (.int .i64 i) from rfl)
      have z2 := (hp_cell X5 2).trans (show _ = some (.int .i64 tk) from rfl)
      have z3 := (hp_cell X5 3).trans (show _ = some (.slice sv n cp) from rfl)
      have V5 := Lib.hid (hV0.out.bw A5.b)
      have c2 := Lib.hid (rput_any w.heap.size g1 n cp sv sl cl_ sc cc S i tk l mn (j : Nat) K0.out hmn (by omega) (by omega) (by omega) hnl.out (by omega) w5 A5.b.size R5.out V5.out)
      rw [hR.out] at c2
      replace Q5 := Lib.hid Q5
      replace A5 := Lib.hid A5
      replace G5 := Lib.hid G5
      clear T5 c1 d1 d2 d3 d4 d5 d6
      replace X5 := Lib.hid X5
      try dsimp only
      go_wp2_with fail
      refine Calls.mono c2.out ?_
      rintro e w7 ⟨sl2, cl2, sc2, cc2, so2, co2, rfl, Q7, R7, T7⟩
      try dsimp only at Q7 R7 ⊢
      rw [hkl.out] at Q7 ⊢
      obtain ⟨J7, Q8⟩ := PJ.to A5.out R4.out R5.out hg1.out T7 Q5.out G5.out R7
      have c3 := Lib.hid (rsame_any w.heap.size so so2 co co2 k l1 (by omega) w7 Q8 Q7)
      replace J7 := Lib.hid J7
      clear T7 R7 R5 A5 Q5 G5 c2 Q7 Q8 z0 z1 z2 z3
      try dsimp only
      go_wp2_with fail
      refine Calls.mono c3.out ?_
      rintro e w9 ⟨rfl, hb⟩
      have J8 := Lib.hid (J7.out.bw hb)
      clear J7 c3 hb A4 R4
      try dsimp only
      obtain ⟨sa9, cv9, H9, sl9, cl9, sc9, cc9, A9, R9, -⟩ := J8.out
      have c1 := Lib.hid (fun (y : World) (Y : BW w9 y) => next_any w.heap.size g0 cv9 sa9 S1 H9 y (A9.i.bw Y))
      have c2 := Lib.hid (fun (y : World) (Y : BW w9 y) => waits_any w.heap.size g0 cv9 sa9 S1 H9 y (A9.i.bw Y))
      have c3 := Lib.hid (fun (y : World) (Y : BW w9 y) => passed_any w.heap.size g0 cv9 sa9 S1 H9 y (A9.i.bw Y))
      have c4 := Lib.hid (fun (y : World) (Y : BW w9 y) => dropped_any w.heap.size g0 cv9 sa9 S1 H9 y (A9.i.bw Y))
      have p2 := (hp_cell R9.hp 2).trans (show _ = some (.int .i64 S1.next) from rfl)
      have p3 := (hp_cell R9.hp 3).trans (show _ = some (.slice sl9 S1.L.length cl9) from rfl)
      have p5 := (hp_cell R9.hp 5).trans (show _ = some (.int .i64 S1.passed) from rfl)
      have p6 := (hp_cell R9.hp 6).trans (show _ = some (.int .i64 S1.dropped) from rfl)
      obtain ⟨_, _, he9, hl9, hm9⟩ := R9.l.len
      cases he9
      unfold maxLen at hm9
      have n2 : ∀ y : LaterS [] w9, _ := fun y => y.bw.cell p2
      clear A9 R9
      replace p2 := Lib.hid p2
      replace p3 := Lib.hid p3
      replace p5 := Lib.hid p5
      replace p6 := Lib.hid p6
      generalize S1.L.length = ln9 at *
      generalize S1.next = nx9 at *
      generalize S1.passed = pa9 at *
      generalize S1.dropped = dr9 at *
      go_upto_region 26 with (fail)
      refine wp_region_gg [] [] [] (by kernel_rfl) ?_
      refine hoist [] [] (a1 := ?_) 0 rfl (by kernel_rfl) (.inl ⟨rfl, rfl⟩) rfl rfl rfl (fun x K hK => ?_) ?_
      rotate_left
      · go_big_quiet_op
        exact hK
      refine hoist [] [] (a1 := ?_) 2 rfl (by kernel_rfl) (.inl ⟨rfl, rfl⟩) rfl rfl rfl (fun x K hK => ?_) ?_
      rotate_left
      · go_big_quiet_op
        exact hK
      refine hoist [] [] (a1 := ?_) 3 rfl (by kernel_rfl) (.inl ⟨rfl, rfl⟩) rfl rfl rfl (fun x K hK => ?_) ?_
      rotate_left
      · go_big_quiet_op
        exact hK
      refine hoist [] [] (a1 := ?_) 4 rfl (by kernel_rfl) (.inl ⟨rfl, rfl⟩) rfl rfl rfl (fun x K hK => ?_) ?_
      rotate_left
      · go_big_quiet_op
        exact hK
      refine hoist [] [] (a1 := ?_) 5 rfl (by kernel_rfl) (.inl ⟨rfl, rfl⟩) rfl rfl rfl (fun x K hK => ?_) ?_
      rotate_left
      · go_big_quiet_op
        exact hK
      refine effect 1 rfl (by kernel_rfl) (by kernel_rfl) rfl (fun x1 K hK => ?_)
      go_simp
      refine Calls.mono (c1.out x1.now x1.bw) ?_
      rintro e wq ⟨rfl, rfl⟩
      refine hK _ _ ((BW.refl _).still _) ?_
      clear hK K
      have b1 := Lib.hid x1.bw
      have n2b : ∀ y : LaterS [] x1.now, _ := fun y => y.bw.cell (b1.out.cell p2.out)
      have n3 : ∀ y : LaterS [] x1.now, _ := fun y => y.bw.cell (b1.out.cell p3.out)
      try simp only [Act.put, List.setIfInBounds_toArray, List.set_cons_succ, List.set_cons_zero]
      refine hoist [] [] (a1 := ?_) 6 rfl (by kernel_rfl) (.inl ⟨rfl, rfl⟩) rfl rfl rfl (fun x K hK => ?_) ?_
      rotate_left
      · go_big_quiet_op
        exact hK
      refine hoist [] [] (a1 := ?_) 7 rfl (by kernel_rfl) (.inl ⟨rfl, rfl⟩) rfl rfl rfl (fun x K hK => ?_) ?_
      rotate_left
      · go_big_quiet_op
        exact hK
      refine hoist [] [] (a1 := ?_) 8 rfl (by kernel_rfl) (.inl ⟨rfl, rfl⟩) rfl rfl rfl (fun x K hK => ?_) ?_
      rotate_left
      · go_big_quiet_op
        exact hK
      refine hoist [] [] (a1 := ?_) 10 rfl (by kernel_rfl) (.inl ⟨rfl, rfl⟩) rfl rfl rfl (fun x K hK => ?_) ?_
      rotate_left
      · go_big_quiet_op
        exact hK
      refine hoist [] [] (a1 := ?_) 11 rfl (by kernel_rfl) (.inl ⟨rfl, rfl⟩) rfl rfl rfl (fun x K hK => ?_) ?_
      rotate_left
      · go_big_quiet_op
        exact hK
      refine hoist [] [] (a1 := ?_) 12 rfl (by kernel_rfl) (.inl ⟨rfl, rfl⟩) rfl rfl rfl (fun x K hK => ?_) ?_
      rotate_left
      · go_big_quiet_op
        exact hK
      refine hoist [] [] (a1 := ?_) 13 rfl (by kernel_rfl) (.inl ⟨rfl, rfl⟩) rfl rfl rfl (fun x K hK => ?_) ?_
      rotate_left
      · go_big_quiet_op
        exact hK
      refine hoist [] [] (a1 := ?_) 14 rfl (by kernel_rfl) (.inl ⟨rfl, rfl⟩) rfl rfl rfl (fun x K hK => ?_) ?_
      rotate_left
      · go_big_quiet_op
        exact hK
      refine effect 9 rfl (by kernel_rfl) (by kernel_rfl) rfl (fun x9 K hK => ?_)
      go_simp
      refine Calls.mono (c2.out x9.now (b1.out.trans x9.bw)) ?_
      rintro e wq ⟨rfl, rfl⟩
      refine hK _ _ ((BW.refl _).still _) ?_
      clear hK K
      have b9 := Lib.hid (b1.out.trans x9.bw)
      have n3b : ∀ y : LaterS [] x9.now, _ := fun y => y.bw.cell (b9.out.cell p3.out)
      have n5 : ∀ y : LaterS [] x9.now, _ := fun y => y.bw.cell (b9.out.cell p5.out)
      try simp only [Act.put, List.setIfInBounds_toArray, List.set_cons_succ, List.set_cons_zero]
      refine hoist [] [] (a1 := ?_) 15 rfl (by kernel_rfl) (.inl ⟨rfl, rfl⟩) rfl rfl rfl (fun x K hK => ?_) ?_
      rotate_left
      · go_big_quiet_op
        exact hK
      refine hoist [] [] (a1 := ?_) 16 rfl (by kernel_rfl) (.inl ⟨rfl, rfl⟩) rfl rfl rfl (fun x K hK => ?_) ?_
      rotate_left
      · go_big_quiet_op
        exact hK
      refine hoist [] [] (a1 := ?_) 17 rfl (by kernel_rfl) (.inl ⟨rfl, rfl⟩) rfl rfl rfl (fun x K hK => ?_) ?_
      rotate_left
      · go_big_quiet_op
        exact hK
      refine hoist [] [] (a1 := ?_) 18 rfl (by kernel_rfl) (.inl ⟨rfl, rfl⟩) rfl rfl rfl (fun x K hK => ?_) ?_
      rotate_left
      · go_big_quiet_op
        exact hK
      refine hoist [] [] (a1 := ?_) 20 rfl (by kernel_rfl) (.inl ⟨rfl, rfl⟩) rfl rfl rfl (fun x K hK => ?_) ?_
      rotate_left
      · go_big_quiet_op
        exact hK
      refine hoist [] [] (a1 := ?_) 21 rfl (by kernel_rfl) (.inl ⟨rfl, rfl⟩) rfl rfl rfl (fun x K hK => ?_) ?_
      rotate_left
      · go_big_quiet_op
        exact hK
      refine hoist [] [] (a1 := ?_) 22 rfl (by kernel_rfl) (.inl ⟨rfl, rfl⟩) rfl rfl rfl (fun x K hK => ?_) ?_
      rotate_left
      · go_big_quiet_op
        exact hK
      refine hoist [] [] (a1 := ?_) 23 rfl (by kernel_rfl) (.inl ⟨rfl, rfl⟩) rfl rfl rfl (fun x K hK => ?_) ?_
      rotate_left
      · go_big_quiet_op
        exact hK
      refine effect 19 rfl (by kernel_rfl) (by kernel_rfl) rfl (fun x19 K hK => ?_)
      go_simp
      refine Calls.mono (c3.out x19.now (b9.out.trans x19.bw)) ?_
      rintro e wq ⟨rfl, rfl⟩
      refine hK _ _ ((BW.refl _).still _) ?_
      clear hK K
      have b19 := Lib.hid (b9.out.trans x19.bw)
      have n5b : ∀ y : LaterS [] x19.now, _ := fun y => y.bw.cell (b19.out.cell p5.out)
      have n6 : ∀ y : LaterS [] x19.now, _ := fun y => y.bw.cell (b19.out.cell p6.out)
      try simp only [Act.put, List.setIfInBounds_toArray, List.set_cons_succ, List.set_cons_zero]
      refine hoist [] [] (a1 := ?_) 24 rfl (by kernel_rfl) (.inl ⟨rfl, rfl⟩) rfl rfl rfl (fun x K hK => ?_) ?_
      rotate_left
      · go_big_quiet_op
        exact hK
      refine hoist [] [] (a1 := ?_) 25 rfl (by kernel_rfl) (.inl ⟨rfl, rfl⟩) rfl rfl rfl (fun x K hK => ?_) ?_
      rotate_left
      · go_big_quiet_op
        exact hK
      refine hoist [] [] (a1 := ?_) 26 rfl (by kernel_rfl) (.inl ⟨rfl, rfl⟩) rfl rfl rfl (fun x K hK => ?_) ?_
      rotate_left
      · go_big_quiet_op
        exact hK
      refine hoist [] [] (a1 := ?_) 27 rfl (by kernel_rfl) (.inl ⟨rfl, rfl⟩) rfl rfl rfl (fun x K hK => ?_) ?_
      rotate_left
      · go_big_quiet_op
        exact hK
      refine hoist [] [] (a1 := ?_) 29 rfl (by kernel_rfl) (.inl ⟨rfl, rfl⟩) rfl rfl rfl (fun x K hK => ?_) ?_
      rotate_left
      · go_big_quiet_op
        exact hK
      refine hoist [] [] (a1 := ?_) 30 rfl (by kernel_rfl) (.inl ⟨rfl, rfl⟩) rfl rfl rfl (fun x K hK => ?_) ?_
      rotate_left
      · go_big_quiet_op
        exact hK
      refine hoist [] [] (a1 := ?_) 31 rfl (by kernel_rfl) (.inl ⟨rfl, rfl⟩) rfl rfl rfl (fun x K hK => ?_) ?_
      rotate_left
      · go_big_quiet_op
        exact hK
      refine hoist [] [] (a1 := ?_) 32 rfl (by kernel_rfl) (.inl ⟨rfl, rfl⟩) rfl rfl rfl (fun x K hK => ?_) ?_
      rotate_left
      · go_big_quiet_op
        exact hK
      refine effect 28 rfl (by kernel_rfl) (by kernel_rfl) rfl (fun x28 K hK => ?_)
      go_simp
      refine Calls.mono (c4.out x28.now (b19.out.trans x28.bw)) ?_
      rintro e wq ⟨rfl, rfl⟩
      refine hK _ _ ((BW.refl _).still _) ?_
      clear hK K
      have b28 := Lib.hid (b19.out.trans x28.bw)
      have n6b : ∀ y : LaterS [] x28.now, _ := fun y => y.bw.cell (b28.out.cell p6.out)
      try simp only [Act.put, List.setIfInBounds_toArray, List.set_cons_succ, List.set_cons_zero]
      refine hoist [] [] (a1 := ?_) 33 rfl (by kernel_rfl) (.inl ⟨rfl, rfl⟩) rfl rfl rfl (fun x K hK => ?_) ?_
      rotate_left
      · go_big_quiet_op
        exact hK
      refine hoist [] [] (a1 := ?_) 34 rfl (by kernel_rfl) (.inl ⟨rfl, rfl⟩) rfl rfl rfl (fun x K hK => ?_) ?_
      rotate_left
      · go_big_quiet_op
        exact hK
      refine done (by kernel_rfl) (fun xr => ?_)
      have JR := Lib.hid (J8.out.bw (b28.out.trans xr.bw))
      clear J8 n2 n2b n3 n3b n5 n5b n6 n6b b1 b9 b19 b28 c1 c2 c3 c4 p2 p3 p5 p6
      generalize xr.now = w30 at *
      go_wp2_with fail
      go_roundg (len - (j + 1))
      case measure => omega
      case rel => exact ⟨j + 1, S1, rfl, by omega, by omega, by push_cast; rfl, K1, JR⟩
end Go.Proofs.Ytcempndfbckcaaa
