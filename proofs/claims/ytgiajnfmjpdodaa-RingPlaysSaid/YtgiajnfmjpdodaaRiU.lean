/- The law RingPlays. No condition. -/
import Derived.Test.YtgiajnfmjpdodaaRiT
import Derived.Test.YtgiajnfmjpdodaaRd
import Derived.Deep.CutBlock
namespace Go.Proofs.Ytgiajnfmjpdodaa
open Go.RowKit

abbrev ropTy : Ty := .scope (.seq (.label 4) (.seq (.label 3) (.seq (.loop (.label 4)) .skip)))
theorem rop_at {w : World} {a : Option Addr} {len cap : Nat} (h : Rd w (.loop ropTy) [.slice a len cap]) :
    len ≤ cap ∧ cap ≤ maxLen ∧ (len = 0 ∨ ∃ b o, a = some ⟨b, o, none⟩ ∧ b < w.heap.size ∧ ∀ i, i < len → ∃ (k c : Int) (sa : Option Addr) (n cp : Nat) (l : List Nat), w.cell? ⟨b, o + i * 3, none⟩ = some (.int .u8 k) ∧ w.cell? ⟨b, o + i * 3 + 1, none⟩ = some (.int .i64 c) ∧ w.cell? ⟨b, o + i * 3 + 2, none⟩ = some (.slice sa n cp) ∧ SB w (.slice sa n cp) n l ∧ 0 ≤ k ∧ k ≤ 255 ∧ -9223372036854775808 ≤ c ∧ c ≤ 9223372036854775807) := by
  obtain ⟨h1, h2, h3⟩ := Rd.slice_at h (by decide)
  refine ⟨h1, h2, ?_⟩
  rcases h3 with ⟨_, h, _⟩ | ⟨_, h, _⟩ | ⟨b, o, rfl, hb, hc, hi⟩
  · exact .inl h
  · exact .inl h
  · right
    refine ⟨b, o, rfl, hb, fun i hil => ?_⟩
    obtain ⟨cs, hl, hr, hx⟩ := hi i (by omega)
    obtain ⟨c1, r1, rfl, ⟨n1, rfl, hw1⟩, c3, r3, rfl, ⟨n2, rfl, hw2⟩, c4, r4, rfl, hs, h4⟩ := hr
    have h4' : r4 = [] := h4
    subst h4'
    rcases hs with rfl | ⟨x, ln, cp, rfl, q1, q2, q3⟩
    · have e0 := hx 0 (by decide)
      have e1 := hx 1 (by decide)
      have e2 := hx 2 (by decide)
      have hR : Rd w (.loop (.label 4)) [.slice none 0 0] := .inl rfl
      obtain ⟨l, hv⟩ := SB_of_Rd hR
      have b1 := bounds_u8 hw1
      have b2 := bounds_i64 hw2
      exact ⟨n1, n2, none, 0, 0, l, e0, e1, e2, hv, b1.1, b1.2, b2.1, b2.2⟩
    · have e0 := hx 0 (by decide)
      have e1 := hx 1 (by decide)
      have e2 := hx 2 (by decide)
      have hR : Rd w (.loop (.label 4)) [.slice (some x) ln cp] := .inr ⟨x, ln, cp, rfl, q1, q2, q3⟩
      obtain ⟨l, hv⟩ := SB_of_Rd hR
      have b1 := bounds_u8 hw1
      have b2 := bounds_i64 hw2
      exact ⟨n1, n2, some x, ln, cp, l, e0, e1, e2, hv, b1.1, b1.2, b2.1, b2.2⟩
theorem sb_ltR {w : World} {v : Value} {n : Nat} {l : List Nat} (h : SB w v n l) (h0 : 0 < n) (k : Nat) (hk : v.ownBlock = some k) : k < w.heap.size := by
  obtain ⟨g, o, cap, rfl, h1, _⟩ := h.form h0
  simp only [Value.ownBlock, Option.some.injEq] at hk
  omega
/-- A ring beside the reference's. -/
structure RJ (w : World) (base g rg : Nat) (pk by_ : Int) (v vi vb : Value) (L M : PL) : Prop where
  ring : RingV w base g pk by_ v L
  ref : RefV w base rg pk by_ vi vb M
  sp : SP L M
theorem RJ.bw {w w' : World} {base g rg : Nat} {pk by_ : Int} {v vi vb : Value} {L M : PL} (h : RJ w base g rg pk by_ v vi vb L M) (hb : BW w w') : RJ w' base g rg pk by_ v vi vb L M := ⟨h.ring.bw hb, h.ref.bw hb, h.sp⟩
theorem RJ.refSt {w w' : World} {base g rg : Nat} {pk by_ : Int} {v vi vb : Value} {L M : PL} (h : RJ w base g rg pk by_ v vi vb L M) (hs : Still (g :: v.ownBlock.toList) w w') : RefV w' base rg pk by_ vi vb M := by
  have n1 : ∀ (b : Nat) (cs : Array Value) (t : TypeId) (fr : Nat × Nat), w.heap[b]? = some (.cells cs t fr) → t ≠ 127 → t ≠ 123 → b ∉ g :: v.ownBlock.toList := fun b cs t fr hb t1 t2 hm => by
    rcases List.mem_cons.1 hm with rfl | hm
    · exact hp_ne hb h.ring.cells t2 rfl
    · exact h.ring.q.ne hb t1 b (by simpa using hm) rfl
  refine ⟨h.ref.cells.st hs (n1 _ _ _ _ h.ref.cells (by decide) (by decide)), h.ref.qi.still hs (fun _ _ => trivial) fun k hk => ?_, h.ref.qb.still hs (fun _ _ => trivial) fun k hk => ?_⟩
  · obtain ⟨cs, hr⟩ := h.ref.qi.row k hk
    exact n1 _ _ _ _ hr (by decide) (by decide)
  · obtain ⟨cs, hr⟩ := h.ref.qb.row k hk
    exact n1 _ _ _ _ hr (by decide) (by decide)
theorem RingV.refSt {w w' : World} {base g rg : Nat} {pk by_ pk' by' : Int} {v vi vb : Value} {L M : PL} (h : RingV w base g pk by_ v L) (hr : RefV w base rg pk' by' vi vb M) {S : List Nat} (hs : Still S w w') (hS : ∀ k ∈ S, k = rg ∨ k ∈ vi.ownBlock.toList ∨ k ∈ vb.ownBlock.toList) : RingV w' base g pk by_ v L := by
  have hT : ∀ k ∈ S, ∃ cs t, w.heap[k]? = some (.cells cs t (0, 0)) ∧ t ≠ 5 ∧ t ≠ 127 ∧ t ≠ 123 := fun k hk => by
    rcases hS k hk with rfl | h1 | h1
    · exact ⟨_, _, hr.cells, by decide, by decide, by decide⟩
    · obtain ⟨cs, e⟩ := hr.qi.row k (by simpa using h1)
      exact ⟨_, _, e, by decide, by decide, by decide⟩
    · obtain ⟨cs, e⟩ := hr.qb.row k (by simpa using h1)
      exact ⟨_, _, e, by decide, by decide, by decide⟩
  refine h.still hs (fun k hk => ?_) (fun hm => ?_) fun k hk hm => ?_
  · obtain ⟨cs, t, e, t1, _⟩ := hT k hk
    exact .inr ⟨_, _, _, e, t1⟩
  · obtain ⟨cs, t, e, _, _, t3⟩ := hT g hm
    exact hp_ne h.cells e t3.symm rfl
  · obtain ⟨cs, t, e, _, t2, _⟩ := hT k hm
    exact h.q.ne e t2 k hk rfl
theorem trimN_ok {pk by_ : Int} (h1 : 0 ≤ pk) (h2 : 0 ≤ by_) : ∀ L : PL, (trimN pk by_ L).length ≤ L.length ∧ lensL (trimN pk by_ L) ≤ lensL L ∧ ((trimN pk by_ L).length : Int) ≤ pk ∧ (lensL (trimN pk by_ L) : Int) ≤ by_
  | [] => ⟨Nat.le_refl _, Nat.le_refl _, by simpa [trimN] using h1, by simpa [trimN, lensL] using h2⟩
  | p :: L => by
    obtain ⟨i1, i2, i3, i4⟩ := trimN_ok h1 h2 L
    have e : lensL (p :: L) = p.2.length + lensL L := rfl
    unfold trimN
    split
    · exact ⟨by rw [List.length_cons]; omega, by omega, i3, i4⟩
    · rename_i h
      exact ⟨Nat.le_refl _, Nat.le_refl _, by rw [List.length_cons]; omega, by omega⟩
theorem putN_ok {pk by_ : Int} {L : PL} (x : Int) (b : List Nat) (h1 : 0 ≤ pk) (h2 : 0 ≤ by_) (hl : (L.length : Int) ≤ pk) (hz : (lensL L : Int) ≤ by_) : (putN pk by_ L x b).2.length ≤ L.length + 1 ∧ lensL (putN pk by_ L x b).2 ≤ lensL L + b.length ∧ ((putN pk by_ L x b).2.length : Int) ≤ pk ∧ (lensL (putN pk by_ L x b).2 : Int) ≤ by_ := by
  unfold putN
  split
  · exact ⟨by dsimp only; omega, by dsimp only; omega, hl, hz⟩
  split
  · exact ⟨by dsimp only; omega, by dsimp only; omega, hl, hz⟩
  split
  · exact ⟨by dsimp only; omega, by dsimp only; omega, hl, hz⟩
  obtain ⟨i1, i2, i3, i4⟩ := trimN_ok h1 h2 (insN L x b)
  rw [insN_len] at i1
  rw [insN_lens] at i2
  exact ⟨i1, i2, i3, i4⟩
theorem SP.srtN {L M : PL} (h : SP L M) : Srt L := Srt.of h.srt

set_option maxRecDepth 100000 in
set_option maxHeartbeats 8000000 in
theorem law_rplays (pk by_ : Int) (a : Option Addr) (len cap : Nat) (w : World) (wp : (Lit.int .i64 pk).wf = true) (wy : (Lit.int .i64 by_).wf = true) (wl : Rd w (.loop ropTy) [.slice a len cap]) :
    Calls Try.prog 13 #[.int .i64 pk, .int .i64 by_, .slice a len cap] w fun e w' => e = .returned (.bool true) ∧ Below w.heap.size w w' := by
  obtain ⟨p0, p1⟩ := bounds_i64 wp
  obtain ⟨y0, y1⟩ := bounds_i64 wy
  obtain ⟨hlc, hcm, hops⟩ := rop_at wl
  unfold maxLen at hcm
  clear wp wy wl
  have ha := Lib.hid (ring_alive w)
  replace hops := Lib.hid hops
  go_enter Try.func13, Try.ntmps13
  go_wp2_with fail
  refine Calls.mono ha.out ?_
  rintro e w1 ⟨rfl, B1⟩
  replace B1 := Lib.hid B1
  clear ha
  dsimp only
  by_cases hno : pk < 1 ∨ by_ < 0
  · have cN := Lib.hid (ring_no pk by_ w1 hno)
    go_wp2_with fail
    refine Calls.mono cN.out ?_
    rintro e w2 ⟨rfl, rfl⟩
    clear cN
    dsimp only
    by_cases h1 : pk < 1
    · have d1 : decide (pk < 1) = true := by simpa using h1
      go_wp2_with fail
      go_ret
      exact ⟨rfl, B1.out⟩
    · have d1 : decide (pk < 1) = false := by simpa using h1
      have d2 : decide (by_ < 0) = true := by simp; omega
      go_wp2_with fail
      go_ret
      exact ⟨rfl, B1.out⟩
  have hk1 : 1 ≤ pk := by omega
  have hy1 : 0 ≤ by_ := by omega
  have cN := Lib.hid (ring_new pk by_ w1 hk1 hy1)
  go_wp2_with fail
  refine Calls.mono cN.out ?_
  rintro e w2 ⟨rfl, RV, hb⟩
  have B2 := Lib.hid (B1.out.trans hb)
  have H2 := Lib.hid (RV w.heap.size)
  have hg := B1.out.size
  generalize w1.heap.size = g at *
  have d1 : decide (pk < 1) = false := by simp; omega
  have d2 : decide (by_ < 0) = false := by simp; omega
  clear cN hb B1 RV
  dsimp only
  obtain ⟨w3, hw3⟩ : ∃ w3, w3 = w2.alloc (.cells #[.int .i64 pk, .int .i64 by_, .slice none 0 0, .slice none 0 0] 80) := ⟨_, rfl⟩
  have BA : BW w2 w3 := by rw [hw3]; exact (BW.refl w2).alloc
  have TC : HpB w3 w2.heap.size (.cells #[.int .i64 pk, .int .i64 by_, .slice none 0 0, .slice none 0 0] 80) := by rw [hw3]; exact HpB.new _ _
  have hrg := B2.out.size
  have B3 := Lib.hid (B2.out.trans BA)
  have J3 : Hid (RJ w3 w.heap.size g w2.heap.size pk by_ (.slice none 0 0) (.slice none 0 0) (.slice none 0 0) [] []) := Lib.hid ⟨H2.out.bw BA, ⟨TC, EQ.nil _ _ _ _, EQ.nil _ _ _ _⟩, ⟨List.Pairwise.nil, List.Perm.refl _⟩⟩
  go_upto_region 10 with (fail)
  rw [← hw3]
  generalize w2.heap.size = rg at *
  clear hw3 BA TC B2 H2 d1 d2
  go_loopg [9] len (fun m' i wx => ∃ (j : Nat) (v vi vb : Value) (L M : PL), m' = len - j ∧ j ≤ len ∧ i = .int .i64 (j : Nat) ∧ j ≤ 60 ∧ Hid (RJ wx w.heap.size g rg pk by_ v vi vb L M) ∧ L.length ≤ j ∧ lensL L ≤ 300 * j ∧ (L.length : Int) ≤ pk ∧ (lensL L : Int) ≤ by_ ∧ Hid (BW w wx))
  case atStart => exact ⟨0, _, _, _, [], [], by omega, by omega, rfl, by omega, J3, by simp, by simp [lensL], by simp; omega, by simp [lensL]; omega, B3⟩
  case round =>
    clear J3 B3
    obtain ⟨j, v, vi, vb, L, M, rfl, hj, rfl, hj60, J, hl, hz, hlp, hzb, B⟩ := hrel
    by_cases hjl : j < len
    case neg =>
      have d1 : decide ((j : Int) < (len : Int)) = false := by simp; omega
      go_wp2_with fail
      go_ret
      exact ⟨rfl, B.out⟩
    have d1 : decide ((j : Int) < (len : Int)) = true := by simp; omega
    by_cases hj1 : j < 60
    case neg =>
      have d2 : decide ((j : Int) < 60) = false := by simp; omega
      go_wp2_with fail
      go_ret
      exact ⟨rfl, B.out⟩
    have d2 : decide ((j : Int) < 60) = true := by simp; omega
    rcases hops.out with h | ⟨b, o, rfl, hbw, hi⟩
    · omega
    obtain ⟨k, c, sa, n, cp, l, e0, e1, e2, hv, k0, k1, c0, c1⟩ := hi j hjl
    clear hops hi
    have x0 := B.out.cell e0
    have x1 := B.out.cell e1
    have x2 := B.out.cell e2
    replace e0 := Lib.hid e0
    replace e1 := Lib.hid e1
    replace e2 := Lib.hid e2
    replace hv := Lib.hid hv
    go_upto_region 13 with (fail)
    obtain ⟨wx, hwx⟩ : ∃ wx, wx = wr.alloc (.cells #[.int .u8 k, .int .i64 c, .slice sa n cp] 82) := ⟨_, rfl⟩
    have BX : BW wr wx := by rw [hwx]; exact (BW.refl wr).alloc
    have X1 : Hid (HpB wx wr.heap.size (.cells #[.int .u8 k, .int .i64 c, .slice sa n cp] 82)) := Lib.hid (by rw [hwx]; exact HpB.new _ _)
    rw [← hwx]
    have JX := Lib.hid (J.out.bw BX)
    have BXX := Lib.hid (B.out.trans BX)
    have hxg : Hid (∀ q, v.ownBlock = some q → q < wr.heap.size) := Lib.hid J.out.ring.q.lt'
    have hxi : Hid (∀ q, vi.ownBlock = some q → q < wr.heap.size) := Lib.hid J.out.ref.qi.lt'
    have hxb : Hid (∀ q, vb.ownBlock = some q → q < wr.heap.size) := Lib.hid J.out.ref.qb.lt'
    have hrgl : rg < wr.heap.size := HpB.lt J.out.ref.cells
    have hgl : g < wr.heap.size := HpB.lt J.out.ring.cells
    have hxw := B.out.size
    generalize wr.heap.size = xb at *
    clear hwx BX J x0 x1 x2
    have q0 := hp_cell (X1.out) 0
    have q1 := hp_cell (X1.out) 1
    have q2 := hp_cell (X1.out) 2
    simp only [List.getElem?_toArray, List.getElem?_cons_zero, List.getElem?_cons_succ] at q0 q1 q2
    by_cases hn : 300 < n
    · have d3 : decide ((300 : Int) < (n : Int)) = true := by simp; omega
      go_wp2_with fail
      go_ret
      exact ⟨rfl, BXX.out⟩
    have d3 : decide ((300 : Int) < (n : Int)) = false := by simp; omega
    go_upto_block 2 with (fail)
    clear d1 d2 d3
    go_cut [] (fun wc => ∃ (v2 vi2 vb2 : Value) (L2 M2 : PL), Hid (RJ wc w.heap.size g rg pk by_ v2 vi2 vb2 L2 M2) ∧ L2.length ≤ j + 1 ∧ lensL L2 ≤ 300 * (j + 1) ∧ (L2.length : Int) ≤ pk ∧ (lensL L2 : Int) ≤ by_ ∧ Hid (HpB wc xb (.cells #[.int .u8 k, .int .i64 c, .slice sa n cp] 82)) ∧ Hid (BW w wc))
    case first =>
      by_cases h2 : k % 4 = 2
      · have d4 : (k % 4 == 2) = true := by simpa using h2
        clear h2
        go_wp2_with fail
        go_meet
        exact ⟨v, vi, vb, L, M, JX, by omega, by omega, hlp, hzb, X1, BXX⟩
      have d4 : (k % 4 == 2) = false := by simpa using h2
      by_cases h3 : k % 4 = 3
      · have d5 : (k % 4 == 3) = true := by simpa using h3
        clear h2 h3
        go_upto_region 20 with (fail)
        have hfs := forget_same c L M 0 JX.out.sp
        have hfl := lowN_le L c
        have hxS : xb ∉ [g, rg] := by simp; omega
        have lq1 := fun y : LaterS [g, rg] wx => y.cell q1 hxS
        have lr1 := fun y : LaterS [] wx => y.cell q1 (by simp)
        clear q0 q1 q2
        replace hxS := Lib.hid hxS
        replace hfs := Lib.hid hfs
        refine wp_region_gg ([g, rg]) [3, 7] [] (by kernel_rfl) ?_
        refine hoist [] [3, 7] (a1 := ?_) 0 rfl (by kernel_rfl) (.inl ⟨rfl, rfl⟩) rfl rfl rfl (fun x K hK => ?_) ?_
        rotate_left
        · go_big_quiet_op
          exact hK
        refine hoist [] [3, 7] (a1 := ?_) 1 rfl (by kernel_rfl) (.inl ⟨rfl, rfl⟩) rfl rfl rfl (fun x K hK => ?_) ?_
        rotate_left
        · go_big_quiet_op
          exact hK
        refine hoist [] [3, 7] (a1 := ?_) 2 rfl (by kernel_rfl) (.inl ⟨rfl, rfl⟩) rfl rfl rfl (fun x K hK => ?_) ?_
        rotate_left
        · go_big_quiet_op
          exact hK
        refine hoist ([g, rg]) [] (a1 := ?_) 4 rfl (by kernel_rfl) (.inr rfl) rfl rfl rfl (fun x K hK => ?_) ?_
        rotate_left
        · go_big_quiet_op
          exact hK
        refine hoist ([g, rg]) [] (a1 := ?_) 5 rfl (by kernel_rfl) (.inr rfl) rfl rfl rfl (fun x K hK => ?_) ?_
        rotate_left
        · go_big_quiet_op
          exact hK
        refine hoist ([g, rg]) [] (a1 := ?_) 6 rfl (by kernel_rfl) (.inr rfl) rfl rfl rfl (fun x K hK => ?_) ?_
        rotate_left
        · go_big_quiet_op
          exact hK
        refine effect 3 rfl (by kernel_rfl) (by kernel_rfl) rfl (fun x3 K hK => ?_)
        go_simp
        have hbx := x3.bw
        have hb3 := BXX.out.trans hbx
        refine Calls.mono (forget_any w.heap.size g pk by_ v L c x3.now (JX.out.ring.bw hbx) JX.out.sp.srtN (by omega) (by omega) hfl hb3.size) ?_
        rintro e wa ⟨rfl, ⟨v2, H2, -⟩, TS⟩
        refine hK _ _ (TS.weaken (by simp)) ?_
        clear hK K lq1 lr1
        have R2 := (JX.out.bw hbx).refSt (TS.weaken (by simp))
        have Ba := Lib.hid (BW.stP hb3 TS (by simp; omega))
        have X2 := Lib.hid ((X1.out.bw hbx).st TS (by simp; omega))
        clear TS hbx hb3
        replace H2 := Lib.hid H2
        replace R2 := Lib.hid R2
        try simp only [Act.put, List.setIfInBounds_toArray, List.set_cons_succ, List.set_cons_zero]
        refine effect 7 rfl (by kernel_rfl) (by kernel_rfl) rfl (fun x7 K hK => ?_)
        go_simp
        have hbx := x7.bw
        have hb7 := Ba.out.trans hbx
        refine Calls.mono (rforget_any w.heap.size rg pk by_ vi vb M c x7.now (R2.out.bw hbx) (by rw [← JX.out.sp.len]; omega) hb7.size) ?_
        rintro e wb ⟨rfl, ⟨vi3, vb3, R3, -, -⟩, TS⟩
        refine hK _ _ (TS.weaken (by simp)) ?_
        clear hK K
        have H3 := (H2.out.bw hbx).refSt (R2.out.bw hbx) TS (fun q hq => .inl (by simpa using hq))
        have Bb := Lib.hid (BW.stP hb7 TS (by simp; omega))
        have X3 := Lib.hid ((X2.out.bw hbx).st TS (by simp; omega))
        have J3 : Hid (RJ wb w.heap.size g rg pk by_ v2 vi3 vb3 (L.drop (lowN L c)) (forgetR c M.length M 0).2) := Lib.hid ⟨H3, R3, hfs.out.2⟩
        rw [hfs.out.1, Nat.zero_add]
        clear TS hbx hb7 H3 R3 H2 R2 Ba X2
        have t4 : ((lowN L c : Int) != (lowN L c : Int)) = false := by simp
        try simp only [Act.put, List.setIfInBounds_toArray, List.set_cons_succ, List.set_cons_zero]
        refine hoist [] [3, 7] (a1 := ?_) 8 rfl (by kernel_rfl) (.inl ⟨rfl, rfl⟩) rfl rfl rfl (fun x K hK => ?_) ?_
        rotate_left
        · go_big_quiet_op
          exact hK
        refine done (by kernel_rfl) (fun xr => ?_)
        have Bc := Lib.hid (Bb.out.trans xr.bw)
        have J4 := Lib.hid (J3.out.bw xr.bw)
        have X4 := Lib.hid (X3.out.bw xr.bw)
        have hd1 : (L.drop (lowN L c)).length ≤ L.length := by rw [List.length_drop]; omega
        have hd2 := lensL_drop_le L (lowN L c)
        clear J3 hfs Bb X3
        generalize L.drop (lowN L c) = L3 at *
        generalize (forgetR c M.length M 0).2 = M3 at *
        go_wp2_with fail
        go_meet
        exact ⟨v2, vi3, vb3, L3, M3, J4, by omega, by omega, by omega, by omega, X4, Bc⟩
      have d5 : (k % 4 == 3) = false := by simpa using h3
      clear h2 h3
      go_upto_region 16 with (fail)
      have hlen := hv.out.1
      have hps := put_same JX.out.sp pk by_ c l hk1
      have hle := putN_ok (L := L) c l (by omega) hy1 hlp hzb
      have hxS : xb ∉ (g :: v.ownBlock.toList) ++ (rg :: (vi.ownBlock.toList ++ vb.ownBlock.toList)) := fun h => by
        rcases List.mem_append.1 h with h | h
        · rcases List.mem_cons.1 h with h | h
          · omega
          · have := hxg.out xb (by simpa using h); omega
        · rcases List.mem_cons.1 h with h | h
          · omega
          · rcases List.mem_append.1 h with h | h
            · have := hxi.out xb (by simpa using h); omega
            · have := hxb.out xb (by simpa using h); omega
      have lq1 := fun y : LaterS ((g :: v.ownBlock.toList) ++ (rg :: (vi.ownBlock.toList ++ vb.ownBlock.toList))) wx => y.cell q1 hxS
      have lq2 := fun y : LaterS ((g :: v.ownBlock.toList) ++ (rg :: (vi.ownBlock.toList ++ vb.ownBlock.toList))) wx => y.cell q2 hxS
      have lr1 := fun y : LaterS [] wx => y.cell q1 (by simp)
      have lr2 := fun y : LaterS [] wx => y.cell q2 (by simp)
      clear q0 q1 q2
      have hsub1 : (g :: v.ownBlock.toList) ⊆ (g :: v.ownBlock.toList) ++ (rg :: (vi.ownBlock.toList ++ vb.ownBlock.toList)) := List.subset_append_left _ _
      have hsub2 : (rg :: (vi.ownBlock.toList ++ vb.ownBlock.toList)) ⊆ (g :: v.ownBlock.toList) ++ (rg :: (vi.ownBlock.toList ++ vb.ownBlock.toList)) := List.subset_append_right _ _
      replace hxS := Lib.hid hxS
      replace hps := Lib.hid hps
      replace hle := Lib.hid hle
      replace hsub1 := Lib.hid hsub1
      replace hsub2 := Lib.hid hsub2
      refine wp_region_gg ((g :: v.ownBlock.toList) ++ (rg :: (vi.ownBlock.toList ++ vb.ownBlock.toList))) [5, 11] [] (by kernel_rfl) ?_
      refine hoist [] [5, 11] (a1 := ?_) 0 rfl (by kernel_rfl) (.inl ⟨rfl, rfl⟩) rfl rfl rfl (fun x K hK => ?_) ?_
      rotate_left
      · go_big_quiet_op
        exact hK
      refine hoist [] [5, 11] (a1 := ?_) 1 rfl (by kernel_rfl) (.inl ⟨rfl, rfl⟩) rfl rfl rfl (fun x K hK => ?_) ?_
      rotate_left
      · go_big_quiet_op
        exact hK
      refine hoist [] [5, 11] (a1 := ?_) 2 rfl (by kernel_rfl) (.inl ⟨rfl, rfl⟩) rfl rfl rfl (fun x K hK => ?_) ?_
      rotate_left
      · go_big_quiet_op
        exact hK
      refine hoist [] [5, 11] (a1 := ?_) 3 rfl (by kernel_rfl) (.inl ⟨rfl, rfl⟩) rfl rfl rfl (fun x K hK => ?_) ?_
      rotate_left
      · go_big_quiet_op
        exact hK
      refine hoist [] [5, 11] (a1 := ?_) 4 rfl (by kernel_rfl) (.inl ⟨rfl, rfl⟩) rfl rfl rfl (fun x K hK => ?_) ?_
      rotate_left
      · go_big_quiet_op
        exact hK
      refine hoist ((g :: v.ownBlock.toList) ++ (rg :: (vi.ownBlock.toList ++ vb.ownBlock.toList))) [] (a1 := ?_) 6 rfl (by kernel_rfl) (.inr rfl) rfl rfl rfl (fun x K hK => ?_) ?_
      rotate_left
      · go_big_quiet_op
        exact hK
      refine hoist ((g :: v.ownBlock.toList) ++ (rg :: (vi.ownBlock.toList ++ vb.ownBlock.toList))) [] (a1 := ?_) 7 rfl (by kernel_rfl) (.inr rfl) rfl rfl rfl (fun x K hK => ?_) ?_
      rotate_left
      · go_big_quiet_op
        exact hK
      refine hoist ((g :: v.ownBlock.toList) ++ (rg :: (vi.ownBlock.toList ++ vb.ownBlock.toList))) [] (a1 := ?_) 8 rfl (by kernel_rfl) (.inr rfl) rfl rfl rfl (fun x K hK => ?_) ?_
      rotate_left
      · go_big_quiet_op
        exact hK
      refine hoist ((g :: v.ownBlock.toList) ++ (rg :: (vi.ownBlock.toList ++ vb.ownBlock.toList))) [] (a1 := ?_) 9 rfl (by kernel_rfl) (.inr rfl) rfl rfl rfl (fun x K hK => ?_) ?_
      rotate_left
      · go_big_quiet_op
        exact hK
      refine hoist ((g :: v.ownBlock.toList) ++ (rg :: (vi.ownBlock.toList ++ vb.ownBlock.toList))) [] (a1 := ?_) 10 rfl (by kernel_rfl) (.inr rfl) rfl rfl rfl (fun x K hK => ?_) ?_
      rotate_left
      · go_big_quiet_op
        exact hK
      refine effect 5 rfl (by kernel_rfl) (by kernel_rfl) rfl (fun x5 K hK => ?_)
      go_simp
      have hbx := x5.bw
      have hb3 := BXX.out.trans hbx
      refine Calls.mono (put_any w.heap.size g pk by_ v L c (.slice sa n cp) l x5.now (JX.out.ring.bw hbx) JX.out.sp.srtN (by omega) (by omega) hb3.size (by rw [hlen]; exact hv.out.bw hb3) (by omega) hk1 p1 hy1 y1) ?_
      rintro e wa ⟨rfl, ⟨v2, H2, -⟩, TS⟩
      refine hK _ _ (TS.weaken hsub1.out) ?_
      clear hK K lq1 lq2 lr1 lr2
      have R2 := (JX.out.bw hbx).refSt TS
      have hge := JX.out.ring.q.ge'
      have Ba := Lib.hid (BW.stP hb3 TS (fun q hm => by
        rcases List.mem_cons.1 hm with rfl | hm
        · omega
        · exact hge q (by simpa using hm)))
      have X2 := Lib.hid ((X1.out.bw hbx).st TS (fun h => hxS.out (hsub1.out h)))
      clear TS hbx hb3 hge
      replace H2 := Lib.hid H2
      replace R2 := Lib.hid R2
      try simp only [Act.put, List.setIfInBounds_toArray, List.set_cons_succ, List.set_cons_zero]
      refine effect 11 rfl (by kernel_rfl) (by kernel_rfl) rfl (fun x11 K hK => ?_)
      go_simp
      have hbx := x11.bw
      have hb7 := Ba.out.trans hbx
      refine Calls.mono (rfput_any w.heap.size rg pk by_ vi vb M c (.slice sa n cp) l x11.now (R2.out.bw hbx) (by rw [← JX.out.sp.len]; omega) (by rw [← lensL_perm JX.out.sp.perm]; omega) hb7.size (by rw [hlen]; exact hv.out.bw hb7) (by omega) hk1 hy1 (fun h0 q hq => sb_ltR hv.out (by omega) q hq) hrg) ?_
      rintro e wb ⟨rfl, ⟨vi3, vb3, R3, -, -⟩, TS⟩
      refine hK _ _ (TS.weaken hsub2.out) ?_
      clear hK K
      have H3 := (H2.out.bw hbx).refSt (R2.out.bw hbx) TS (fun q hq => (List.mem_cons.1 hq).imp id (fun h => List.mem_append.1 h))
      have hgi := R2.out.qi.ge'
      have hgb := R2.out.qb.ge'
      have Bb := Lib.hid (BW.stP hb7 TS (fun q hm => by
        rcases List.mem_cons.1 hm with rfl | hm
        · omega
        · rcases List.mem_append.1 hm with hm | hm
          · exact hgi q (by simpa using hm)
          · exact hgb q (by simpa using hm)))
      have X3 := Lib.hid ((X2.out.bw hbx).st TS (fun h => hxS.out (hsub2.out h)))
      have J3 : Hid (RJ wb w.heap.size g rg pk by_ v2 vi3 vb3 (putN pk by_ L c l).2 (rputN pk by_ M c l).2) := Lib.hid ⟨H3, R3, hps.out.2⟩
      rw [← hps.out.1]
      clear TS hbx hb7 H3 R3 H2 R2 Ba X2 hgi hgb
      have t4 : (((putN pk by_ L c l).1 : Int) != ((putN pk by_ L c l).1 : Int)) = false := by simp
      try simp only [Act.put, List.setIfInBounds_toArray, List.set_cons_succ, List.set_cons_zero]
      refine hoist [] [5, 11] (a1 := ?_) 12 rfl (by kernel_rfl) (.inl ⟨rfl, rfl⟩) rfl rfl rfl (fun x K hK => ?_) ?_
      rotate_left
      · go_big_quiet_op
        exact hK
      refine done (by kernel_rfl) (fun xr => ?_)
      have Bc := Lib.hid (Bb.out.trans xr.bw)
      have J4 := Lib.hid (J3.out.bw xr.bw)
      have X4 := Lib.hid (X3.out.bw xr.bw)
      obtain ⟨hd1, hd2, hd3, hd4⟩ := hle.out
      clear J3 hps hle Bb X3
      generalize (putN pk by_ L c l).2 = L3 at *
      generalize (putN pk by_ L c l).1 = en at *
      generalize (rputN pk by_ M c l).2 = M3 at *
      go_wp2_with fail
      go_meet
      exact ⟨v2, vi3, vb3, L3, M3, J4, by omega, by omega, hd3, hd4, X4, Bc⟩
    clear JX hl hz hlp hzb X1 BXX q0 q1 q2 hxg hxi hxb
    obtain ⟨v, vi, vb, L, M, J, hl, hz, hlp, hzb, X1, B⟩ := hcut
    have q0 := hp_cell (X1.out) 0
    have q1 := hp_cell (X1.out) 1
    have q2 := hp_cell (X1.out) 2
    simp only [List.getElem?_toArray, List.getElem?_cons_zero, List.getElem?_cons_succ] at q0 q1 q2
    have cG := Lib.hid (get_any w.heap.size g pk by_ v L c wc J.out.ring J.out.sp.srtN (by omega) (by omega))
    have hat := at_same J.out.sp c
    go_wp2_with fail
    refine Calls.mono cG.out ?_
    rintro e w4 ⟨u4, rfl, O4, hb⟩
    have J4 := Lib.hid (J.out.bw hb)
    have B4 := Lib.hid (B.out.trans hb)
    have q1 := hb.cell q1
    have O4' := Lib.hid O4
    have cA := Lib.hid (rat_any w.heap.size rg pk by_ vi vb M c w4 J4.out.ref)
    obtain ⟨s4, c4, rfl, _, _⟩ := O4.len
    clear cG hb J B X1 O4 q0 q2
    dsimp only
    replace hat := Lib.hid hat
    go_wp2_with fail
    refine Calls.mono cA.out ?_
    rintro e w5 ⟨rfl, rfl⟩
    clear cA q1
    dsimp only
    have hML := J4.out.sp.len
    have hlz := lensL_perm J4.out.sp.perm
    have cL := fun wy (hb : BW w4 wy) => Lib.hid (rlen_any w.heap.size g pk by_ v L wy (J4.out.ring.bw hb))
    have cS := fun wy (hb : BW w4 wy) => Lib.hid (rsiz_any w.heap.size g pk by_ v L wy (J4.out.ring.bw hb))
    have cR := fun wy (hb : BW w4 wy) => Lib.hid (rsz_any w.heap.size rg pk by_ vi vb M wy (J4.out.ref.bw hb) (by omega))
    obtain ⟨s5, c5, rfl, hn5, hm5⟩ := J4.out.ref.qi.len
    obtain ⟨s6, c6, rfl, hn6, hm6⟩ := J4.out.ref.qb.len
    unfold maxLen at hm5 hm6
    have z2 : w4.cell? ⟨rg, 2, none⟩ = some (.slice s5 M.length c5) := hp_cell J4.out.ref.cells 2
    have z3 : w4.cell? ⟨rg, 3, none⟩ = some (.slice s6 M.length c6) := hp_cell J4.out.ref.cells 3
    have t1 : ((L.length : Int) != (M.length : Int)) = false := by simp; omega
    have t2 : ((lensL L : Int) != (lensL M : Int)) = false := by simp; omega
    have t3 : decide (pk < (L.length : Int)) = false := by simp; omega
    have t4 : decide (by_ < (lensL L : Int)) = false := by simp; omega
    have l2 := fun y : LaterS [] w4 => y.cell z2 (by simp)
    have l3 := fun y : LaterS [] w4 => y.cell z3 (by simp)
    have E1 : ∀ y : LaterS [] w4, _ := fun y => conv_sb (O4'.out.bw y.bw).sb
    have hi1 : L.length ≤ 60 := by omega
    replace z2 := Lib.hid z2
    replace hML := Lib.hid hML
    replace hlz := Lib.hid hlz
    cases hA : isAt L c with
    | true =>
      have hA2 := hat.out
      rw [hA] at hA2
      obtain ⟨at_, hatN⟩ : ∃ a, atN M c = some a := by
        cases h : atN M c with
        | none => rw [h] at hA2; cases hA2
        | some a => exact ⟨a, rfl⟩
      obtain ⟨haM, hgs⟩ := get_same J4.out.sp hatN
      obtain ⟨b6, o6, rfl, hc6⟩ := J4.out.ref.b_form rfl (by omega)
      have z6 := hc6 at_ haM
      rw [← hgs] at z6
      have l6 := fun y : LaterS [] w4 => y.cell z6 (by simp)
      rw [hatN, show atI (some at_) = (at_ : Nat) from rfl]
      have t5 : decide ((0 : Int) ≤ (at_ : Int)) = true := by simp
      generalize hS : bstr (getN L c) = S at *
      clear hc6 hgs
      replace hS := Lib.hid hS
      replace z3 := Lib.hid z3
      replace z6 := Lib.hid z6
      replace hA := Lib.hid hA
      replace hA2 := Lib.hid hA2
      replace hatN := Lib.hid hatN
      go_upto_region 24 with (fail)
      refine wp_region_gg [] [] [] (by kernel_rfl) ?_
      refine hoist [] [] (a1 := ?_) 0 rfl (by kernel_rfl) (.inl ⟨rfl, rfl⟩) rfl rfl rfl (fun x K hK => ?_) ?_
      rotate_left
      · go_big_quiet_op
        exact hK
      refine hoist [] [] (a1 := ?_) 1 rfl (by kernel_rfl) (.inl ⟨rfl, rfl⟩) rfl rfl rfl (fun x K hK => ?_) ?_
      rotate_left
      · go_big_quiet_op
        exact hK
      refine hoist [] [] (a1 := ?_) 2 rfl (by kernel_rfl) (.inl ⟨rfl, rfl⟩) rfl rfl rfl (fun x K hK => ?_) ?_
      rotate_left
      · go_big_quiet_op
        exact hK
      refine hoist [] [] (a1 := ?_) 3 rfl (by kernel_rfl) (.inl ⟨rfl, rfl⟩) rfl rfl rfl (fun x K hK => ?_) ?_
      rotate_left
      · go_big_quiet_op
        exact hK
      refine hoist [] [] (a1 := ?_) 4 rfl (by kernel_rfl) (.inl ⟨rfl, rfl⟩) rfl rfl rfl (fun x K hK => ?_) ?_
      rotate_left
      · go_big_quiet_op
        exact hK
      refine hoist [] [] (a1 := ?_) 5 rfl (by kernel_rfl) (.inl ⟨rfl, rfl⟩) rfl rfl rfl (fun x K hK => ?_) ?_
      rotate_left
      · go_big_quiet_op
        exact hK
      refine hoist [] [] (a1 := ?_) 6 rfl (by kernel_rfl) (.inl ⟨rfl, rfl⟩) rfl rfl rfl (fun x K hK => ?_) ?_
      rotate_left
      · go_big_quiet_op
        exact hK
      refine hoist [] [] (a1 := ?_) 7 rfl (by kernel_rfl) (.inl ⟨rfl, rfl⟩) rfl rfl rfl (fun x K hK => ?_) ?_
      rotate_left
      · go_big_quiet_op
        exact hK
      refine hoist [] [] (a1 := ?_) 8 rfl (by kernel_rfl) (.inl ⟨rfl, rfl⟩) rfl rfl rfl (fun x K hK => ?_) ?_
      rotate_left
      · go_big_quiet_op
        exact hK
      refine hoist [] [] (a1 := ?_) 9 rfl (by kernel_rfl) (.inl ⟨rfl, rfl⟩) rfl rfl rfl (fun x K hK => ?_) ?_
      rotate_left
      · go_big_quiet_op
        exact hK
      refine hoist [] [] (a1 := ?_) 10 rfl (by kernel_rfl) (.inl ⟨rfl, rfl⟩) rfl rfl rfl (fun x K hK => ?_) ?_
      rotate_left
      · go_big_quiet_op
        exact hK
      refine hoist [] [] (a1 := ?_) 11 rfl (by kernel_rfl) (.inl ⟨rfl, rfl⟩) rfl rfl rfl (fun x K hK => ?_) ?_
      rotate_left
      · go_big_quiet_op
        exact hK
      refine hoist [] [] (a1 := ?_) 12 rfl (by kernel_rfl) (.inl ⟨rfl, rfl⟩) rfl rfl rfl (fun x K hK => ?_) ?_
      rotate_left
      · go_big_quiet_op
        exact hK
      refine hoist [] [] (a1 := ?_) 13 rfl (by kernel_rfl) (.inl ⟨rfl, rfl⟩) rfl rfl rfl (fun x K hK => ?_) ?_
      rotate_left
      · go_big_quiet_op
        exact hK
      refine hoist [] [] (a1 := ?_) 14 rfl (by kernel_rfl) (.inl ⟨rfl, rfl⟩) rfl rfl rfl (fun x K hK => ?_) ?_
      rotate_left
      · go_big_quiet_op
        exact hK
      refine hoist [] [] (a1 := ?_) 15 rfl (by kernel_rfl) (.inl ⟨rfl, rfl⟩) rfl rfl rfl (fun x K hK => ?_) ?_
      rotate_left
      · go_big_quiet_op
        exact hK
      refine hoist [] [] (a1 := ?_) 16 rfl (by kernel_rfl) (.inl ⟨rfl, rfl⟩) rfl rfl rfl (fun x K hK => ?_) ?_
      rotate_left
      · go_big_quiet_op
        exact hK
      refine hoist [] [] (a1 := ?_) 17 rfl (by kernel_rfl) (.inl ⟨rfl, rfl⟩) rfl rfl rfl (fun x K hK => ?_) ?_
      rotate_left
      · go_big_quiet_op
        exact hK
      refine hoist [] [] (a1 := ?_) 18 rfl (by kernel_rfl) (.inl ⟨rfl, rfl⟩) rfl rfl rfl (fun x K hK => ?_) ?_
      rotate_left
      · go_big_quiet_op
        exact hK
      refine hoist [] [] (a1 := ?_) 19 rfl (by kernel_rfl) (.inl ⟨rfl, rfl⟩) rfl rfl rfl (fun x K hK => ?_) ?_
      rotate_left
      · go_big_quiet_op
        exact hK
      refine hoist [] [] (a1 := ?_) 20 rfl (by kernel_rfl) (.inl ⟨rfl, rfl⟩) rfl rfl rfl (fun x K hK => ?_) ?_
      rotate_left
      · go_big_quiet_op
        exact hK
      refine hoist [] [] (a1 := ?_) 22 rfl (by kernel_rfl) (.inl ⟨rfl, rfl⟩) rfl rfl rfl (fun x K hK => ?_) ?_
      rotate_left
      · go_big_quiet_op
        exact hK
      refine hoist [] [] (a1 := ?_) 23 rfl (by kernel_rfl) (.inl ⟨rfl, rfl⟩) rfl rfl rfl (fun x K hK => ?_) ?_
      rotate_left
      · go_big_quiet_op
        exact hK
      refine hoist [] [] (a1 := ?_) 24 rfl (by kernel_rfl) (.inl ⟨rfl, rfl⟩) rfl rfl rfl (fun x K hK => ?_) ?_
      rotate_left
      · go_big_quiet_op
        exact hK
      refine hoist [] [] (a1 := ?_) 25 rfl (by kernel_rfl) (.inl ⟨rfl, rfl⟩) rfl rfl rfl (fun x K hK => ?_) ?_
      rotate_left
      · go_big_quiet_op
        exact hK
      refine hoist [] [] (a1 := ?_) 26 rfl (by kernel_rfl) (.inl ⟨rfl, rfl⟩) rfl rfl rfl (fun x K hK => ?_) ?_
      rotate_left
      · go_big_quiet_op
        exact hK
      refine effect 21 rfl (by kernel_rfl) (by kernel_rfl) rfl (fun x21 K hK => ?_)
      go_simp
      refine Calls.mono (cL x21.now x21.bw).out ?_
      rintro e wq ⟨rfl, rfl⟩
      refine hK _ _ (Still.refl _ _) ?_
      clear hK K
      have W1 := Lib.hid x21.bw
      try simp only [Act.put, List.setIfInBounds_toArray, List.set_cons_succ, List.set_cons_zero]
      refine hoist [] [] (a1 := ?_) 27 rfl (by kernel_rfl) (.inl ⟨rfl, rfl⟩) rfl rfl rfl (fun x K hK => ?_) ?_
      rotate_left
      · go_big_quiet_op
        exact hK
      refine hoist [] [] (a1 := ?_) 28 rfl (by kernel_rfl) (.inl ⟨rfl, rfl⟩) rfl rfl rfl (fun x K hK => ?_) ?_
      rotate_left
      · go_big_quiet_op
        exact hK
      refine hoist [] [] (a1 := ?_) 29 rfl (by kernel_rfl) (.inl ⟨rfl, rfl⟩) rfl rfl rfl (fun x K hK => ?_) ?_
      rotate_left
      · go_big_quiet_op
        exact hK
      refine hoist [] [] (a1 := ?_) 30 rfl (by kernel_rfl) (.inl ⟨rfl, rfl⟩) rfl rfl rfl (fun x K hK => ?_) ?_
      rotate_left
      · go_big_quiet_op
        exact hK
      refine hoist [] [] (a1 := ?_) 32 rfl (by kernel_rfl) (.inl ⟨rfl, rfl⟩) rfl rfl rfl (fun x K hK => ?_) ?_
      rotate_left
      · go_big_quiet_op
        exact hK
      refine effect 31 rfl (by kernel_rfl) (by kernel_rfl) rfl (fun x31 K hK => ?_)
      go_simp
      refine Calls.mono (cS x31.now (W1.out.trans x31.bw)).out ?_
      rintro e wq ⟨rfl, rfl⟩
      refine hK _ _ (Still.refl _ _) ?_
      clear hK K
      have W2 := Lib.hid (W1.out.trans x31.bw)
      try simp only [Act.put, List.setIfInBounds_toArray, List.set_cons_succ, List.set_cons_zero]
      refine effect 33 rfl (by kernel_rfl) (by kernel_rfl) rfl (fun x33 K hK => ?_)
      go_simp
      refine Calls.mono (cR x33.now (W2.out.trans x33.bw)).out ?_
      rintro e wq ⟨rfl, rfl⟩
      refine hK _ _ (Still.refl _ _) ?_
      clear hK K
      have W3 := Lib.hid (W2.out.trans x33.bw)
      try simp only [Act.put, List.setIfInBounds_toArray, List.set_cons_succ, List.set_cons_zero]
      refine hoist [] [] (a1 := ?_) 34 rfl (by kernel_rfl) (.inl ⟨rfl, rfl⟩) rfl rfl rfl (fun x K hK => ?_) ?_
      rotate_left
      · go_big_quiet_op
        exact hK
      refine hoist [] [] (a1 := ?_) 35 rfl (by kernel_rfl) (.inl ⟨rfl, rfl⟩) rfl rfl rfl (fun x K hK => ?_) ?_
      rotate_left
      · go_big_quiet_op
        exact hK
      refine hoist [] [] (a1 := ?_) 36 rfl (by kernel_rfl) (.inl ⟨rfl, rfl⟩) rfl rfl rfl (fun x K hK => ?_) ?_
      rotate_left
      · go_big_quiet_op
        exact hK
      refine hoist [] [] (a1 := ?_) 37 rfl (by kernel_rfl) (.inl ⟨rfl, rfl⟩) rfl rfl rfl (fun x K hK => ?_) ?_
      rotate_left
      · go_big_quiet_op
        exact hK
      refine hoist [] [] (a1 := ?_) 39 rfl (by kernel_rfl) (.inl ⟨rfl, rfl⟩) rfl rfl rfl (fun x K hK => ?_) ?_
      rotate_left
      · go_big_quiet_op
        exact hK
      refine effect 38 rfl (by kernel_rfl) (by kernel_rfl) rfl (fun x38 K hK => ?_)
      go_simp
      refine Calls.mono (cL x38.now (W3.out.trans x38.bw)).out ?_
      rintro e wq ⟨rfl, rfl⟩
      refine hK _ _ (Still.refl _ _) ?_
      clear hK K
      have W4 := Lib.hid (W3.out.trans x38.bw)
      try simp only [Act.put, List.setIfInBounds_toArray, List.set_cons_succ, List.set_cons_zero]
      refine hoist [] [] (a1 := ?_) 40 rfl (by kernel_rfl) (.inl ⟨rfl, rfl⟩) rfl rfl rfl (fun x K hK => ?_) ?_
      rotate_left
      · go_big_quiet_op
        exact hK
      refine hoist [] [] (a1 := ?_) 41 rfl (by kernel_rfl) (.inl ⟨rfl, rfl⟩) rfl rfl rfl (fun x K hK => ?_) ?_
      rotate_left
      · go_big_quiet_op
        exact hK
      refine hoist [] [] (a1 := ?_) 42 rfl (by kernel_rfl) (.inl ⟨rfl, rfl⟩) rfl rfl rfl (fun x K hK => ?_) ?_
      rotate_left
      · go_big_quiet_op
        exact hK
      refine hoist [] [] (a1 := ?_) 43 rfl (by kernel_rfl) (.inl ⟨rfl, rfl⟩) rfl rfl rfl (fun x K hK => ?_) ?_
      rotate_left
      · go_big_quiet_op
        exact hK
      refine hoist [] [] (a1 := ?_) 45 rfl (by kernel_rfl) (.inl ⟨rfl, rfl⟩) rfl rfl rfl (fun x K hK => ?_) ?_
      rotate_left
      · go_big_quiet_op
        exact hK
      refine effect 44 rfl (by kernel_rfl) (by kernel_rfl) rfl (fun x44 K hK => ?_)
      go_simp
      refine Calls.mono (cS x44.now (W4.out.trans x44.bw)).out ?_
      rintro e wq ⟨rfl, rfl⟩
      refine hK _ _ (Still.refl _ _) ?_
      clear hK K
      have W5 := Lib.hid (W4.out.trans x44.bw)
      try simp only [Act.put, List.setIfInBounds_toArray, List.set_cons_succ, List.set_cons_zero]
      refine hoist [] [] (a1 := ?_) 46 rfl (by kernel_rfl) (.inl ⟨rfl, rfl⟩) rfl rfl rfl (fun x K hK => ?_) ?_
      rotate_left
      · go_big_quiet_op
        exact hK
      refine hoist [] [] (a1 := ?_) 47 rfl (by kernel_rfl) (.inl ⟨rfl, rfl⟩) rfl rfl rfl (fun x K hK => ?_) ?_
      rotate_left
      · go_big_quiet_op
        exact hK
      refine done (by kernel_rfl) (fun xr => ?_)
      clear t5 l6
      have W6 := W5.out.trans xr.bw
      have J6 := Lib.hid (J4.out.bw W6)
      have B6 := Lib.hid (B4.out.trans W6)
      have hss := sort_same L M J4.out.sp
      have cI := Lib.hid (indices_any w.heap.size g pk by_ v L xr.now J6.out.ring (by omega))
      have hml := hML.out
      clear W1 W2 W3 W4 W5 W6 cL cS cR t1 t2 t3 t4 l2 l3 E1 J4 B4 O4'
      generalize xr.now = w6 at *
      replace hss := Lib.hid hss
      go_wp2_with fail
      refine Calls.mono cI.out ?_
      rintro e w7 ⟨u7, rfl, O7, hb⟩
      have J7 := Lib.hid (J6.out.bw hb)
      have B7 := Lib.hid (B6.out.trans hb)
      have cT := Lib.hid (rsorted_any w.heap.size rg pk by_ _ _ M w7 J7.out.ref (by omega) B7.out.size)
      replace O7 := Lib.hid O7
      obtain ⟨s7, c7, rfl, _, _⟩ := O7.out.len
      clear cI hb J6 B6
      dsimp only
      go_wp2_with fail
      refine Calls.mono cT.out ?_
      rintro e w8 ⟨u8, rfl, O8, hb⟩
      have J8 := Lib.hid (J7.out.bw hb)
      have B8 := Lib.hid (B7.out.trans hb)
      have O9 := Lib.hid (O7.out.bw hb)
      rw [hss.out, show (L.map Prod.fst).length = L.length from by simp] at O8
      obtain ⟨s8, c8, rfl, hn8, hm8⟩ := O8.len
      obtain ⟨_, _, he7, hn7, hm7⟩ := O9.out.len
      simp only [Value.slice.injEq, true_and] at he7
      obtain ⟨rfl, rfl⟩ := he7
      unfold maxLen at hm7 hm8
      replace O8 := Lib.hid O8
      have hmf : (L.map Prod.fst).length = L.length := by simp
      have t6 : ((L.length : Int) != (L.length : Int)) = false := by simp
      clear cT hb J7 B7 O7
      generalize L.map Prod.fst = IX at *
      generalize hLn : L.length = nL at *
      replace hmf := Lib.hid hmf
      replace hLn := Lib.hid hLn
      dsimp only
      go_upto_region 30 with (fail)
      clear t6
      obtain ⟨wh, rfl⟩ : ∃ y, y = w8 := ⟨_, rfl⟩
      go_loopg [16] nL (fun m' i wx => ∃ q : Nat, m' = nL - q ∧ q ≤ nL ∧ i = .int .i64 (q : Nat) ∧ Hid (BW wh wx))
      case atStart => exact ⟨0, by omega, by omega, rfl, BW.refl _⟩
      case round =>
        obtain ⟨q, rfl, hq, rfl, BQ⟩ := hrel
        by_cases hqn : q < nL
        · have t7 : decide ((q : Int) < (nL : Int)) = true := by simp; omega
          obtain ⟨g7, o7, rfl, hc7⟩ := i1_form (O9.out.bw BQ.out) (by omega)
          obtain ⟨g8, o8, rfl, hc8⟩ := i1_form (O8.out.bw BQ.out) (by omega)
          have y7 := hc7 q (by rw [hmf.out]; exact hqn)
          have y8 := hc8 q (by rw [hmf.out]; exact hqn)
          clear hc7 hc8
          generalize (IX[q]'(by rw [hmf.out]; exact hqn)) = ix at *
          have t8 : (ix != ix) = false := by simp
          go_upto_region 32 with (fail)
          have l7 := fun y : LaterS [] wr => y.cell y7 (by simp)
          have l8 := fun y : LaterS [] wr => y.cell y8 (by simp)
          clear y7 y8
          refine wp_region_gg [] [] [] (by kernel_rfl) ?_
          refine hoist [] [] (a1 := ?_) 0 rfl (by kernel_rfl) (.inl ⟨rfl, rfl⟩) rfl rfl rfl (fun x K hK => ?_) ?_
          rotate_left
          · go_big_quiet_op
            exact hK
          refine hoist [] [] (a1 := ?_) 1 rfl (by kernel_rfl) (.inl ⟨rfl, rfl⟩) rfl rfl rfl (fun x K hK => ?_) ?_
          rotate_left
          · go_big_quiet_op
            exact hK
          refine hoist [] [] (a1 := ?_) 2 rfl (by kernel_rfl) (.inl ⟨rfl, rfl⟩) rfl rfl rfl (fun x K hK => ?_) ?_
          rotate_left
          · go_big_quiet_op
            exact hK
          refine hoist [] [] (a1 := ?_) 3 rfl (by kernel_rfl) (.inl ⟨rfl, rfl⟩) rfl rfl rfl (fun x K hK => ?_) ?_
          rotate_left
          · go_big_quiet_op
            exact hK
          refine hoist [] [] (a1 := ?_) 4 rfl (by kernel_rfl) (.inl ⟨rfl, rfl⟩) rfl rfl rfl (fun x K hK => ?_) ?_
          rotate_left
          · go_big_quiet_op
            exact hK
          refine hoist [] [] (a1 := ?_) 5 rfl (by kernel_rfl) (.inl ⟨rfl, rfl⟩) rfl rfl rfl (fun x K hK => ?_) ?_
          rotate_left
          · go_big_quiet_op
            exact hK
          refine hoist [] [] (a1 := ?_) 6 rfl (by kernel_rfl) (.inl ⟨rfl, rfl⟩) rfl rfl rfl (fun x K hK => ?_) ?_
          rotate_left
          · go_big_quiet_op
            exact hK
          refine hoist [] [] (a1 := ?_) 7 rfl (by kernel_rfl) (.inl ⟨rfl, rfl⟩) rfl rfl rfl (fun x K hK => ?_) ?_
          rotate_left
          · go_big_quiet_op
            exact hK
          refine hoist [] [] (a1 := ?_) 8 rfl (by kernel_rfl) (.inl ⟨rfl, rfl⟩) rfl rfl rfl (fun x K hK => ?_) ?_
          rotate_left
          · go_big_quiet_op
            exact hK
          refine done (by kernel_rfl) (fun xr => ?_)
          have BY := Lib.hid (BQ.out.trans xr.bw)
          clear l7 l8 t8 t7
          go_wp2_with fail
          go_roundg (nL - (q + 1))
          case measure => omega
          case rel => exact ⟨q + 1, rfl, by omega, by push_cast; rfl, BY⟩
        · obtain rfl : q = nL := by omega
          have t7 : decide ((q : Int) < (q : Int)) = false := by simp
          have J9 := Lib.hid (J8.out.bw BQ.out)
          have B9 := Lib.hid (B8.out.trans BQ.out)
          clear J8 B8 O8 O9 BQ
          go_wp2_with fail
          go_roundg (len - (j + 1))
          case measure => omega
          case rel => exact ⟨j + 1, v, _, _, L, M, rfl, by omega, by push_cast; rfl, by omega, J9, by rw [hLn.out]; omega, hz, by rw [hLn.out]; exact hlp, hzb, B9⟩
    | false =>
      have hA2 := hat.out
      rw [hA] at hA2
      have hatN : atN M c = none := by
        cases h : atN M c with
        | none => rfl
        | some a => rw [h] at hA2; cases hA2
      rw [hatN, show atI none = -1 from rfl]
      have t5 : decide ((0 : Int) ≤ -1) = false := by decide
      replace z3 := Lib.hid z3
      replace hA := Lib.hid hA
      replace hA2 := Lib.hid hA2
      replace hatN := Lib.hid hatN
      go_upto_region 24 with (fail)
      refine wp_region_gg [] [] [] (by kernel_rfl) ?_
      refine hoist [] [] (a1 := ?_) 0 rfl (by kernel_rfl) (.inl ⟨rfl, rfl⟩) rfl rfl rfl (fun x K hK => ?_) ?_
      rotate_left
      · go_big_quiet_op
        exact hK
      refine hoist [] [] (a1 := ?_) 1 rfl (by kernel_rfl) (.inl ⟨rfl, rfl⟩) rfl rfl rfl (fun x K hK => ?_) ?_
      rotate_left
      · go_big_quiet_op
        exact hK
      refine hoist [] [] (a1 := ?_) 2 rfl (by kernel_rfl) (.inl ⟨rfl, rfl⟩) rfl rfl rfl (fun x K hK => ?_) ?_
      rotate_left
      · go_big_quiet_op
        exact hK
      refine hoist [] [] (a1 := ?_) 3 rfl (by kernel_rfl) (.inl ⟨rfl, rfl⟩) rfl rfl rfl (fun x K hK => ?_) ?_
      rotate_left
      · go_big_quiet_op
        exact hK
      refine hoist [] [] (a1 := ?_) 4 rfl (by kernel_rfl) (.inl ⟨rfl, rfl⟩) rfl rfl rfl (fun x K hK => ?_) ?_
      rotate_left
      · go_big_quiet_op
        exact hK
      refine hoist [] [] (a1 := ?_) 5 rfl (by kernel_rfl) (.inl ⟨rfl, rfl⟩) rfl rfl rfl (fun x K hK => ?_) ?_
      rotate_left
      · go_big_quiet_op
        exact hK
      refine hoist [] [] (a1 := ?_) 6 rfl (by kernel_rfl) (.inl ⟨rfl, rfl⟩) rfl rfl rfl (fun x K hK => ?_) ?_
      rotate_left
      · go_big_quiet_op
        exact hK
      refine hoist_skip [] [] 7 rfl (by kernel_rfl) (.inl ⟨rfl, rfl⟩) rfl (a1 := ?_) ?_ ?_
      rotate_left
      · simp only [Act.put, List.setIfInBounds_toArray, List.set_cons_succ, List.set_cons_zero]; rfl
      refine hoist_skip [] [] 8 rfl (by kernel_rfl) (.inl ⟨rfl, rfl⟩) rfl (a1 := ?_) ?_ ?_
      rotate_left
      · simp only [Act.put, List.setIfInBounds_toArray, List.set_cons_succ, List.set_cons_zero]; rfl
      refine hoist_skip [] [] 9 rfl (by kernel_rfl) (.inl ⟨rfl, rfl⟩) rfl (a1 := ?_) ?_ ?_
      rotate_left
      · simp only [Act.put, List.setIfInBounds_toArray, List.set_cons_succ, List.set_cons_zero]; rfl
      refine hoist_skip [] [] 10 rfl (by kernel_rfl) (.inl ⟨rfl, rfl⟩) rfl (a1 := ?_) ?_ ?_
      rotate_left
      · simp only [Act.put, List.setIfInBounds_toArray, List.set_cons_succ, List.set_cons_zero]; rfl
      refine hoist_skip [] [] 11 rfl (by kernel_rfl) (.inl ⟨rfl, rfl⟩) rfl (a1 := ?_) ?_ ?_
      rotate_left
      · simp only [Act.put, List.setIfInBounds_toArray, List.set_cons_succ, List.set_cons_zero]; rfl
      refine hoist_skip [] [] 12 rfl (by kernel_rfl) (.inl ⟨rfl, rfl⟩) rfl (a1 := ?_) ?_ ?_
      rotate_left
      · simp only [Act.put, List.setIfInBounds_toArray, List.set_cons_succ, List.set_cons_zero]; rfl
      refine hoist_skip [] [] 13 rfl (by kernel_rfl) (.inl ⟨rfl, rfl⟩) rfl (a1 := ?_) ?_ ?_
      rotate_left
      · simp only [Act.put, List.setIfInBounds_toArray, List.set_cons_succ, List.set_cons_zero]; rfl
      refine hoist_skip [] [] 14 rfl (by kernel_rfl) (.inl ⟨rfl, rfl⟩) rfl (a1 := ?_) ?_ ?_
      rotate_left
      · simp only [Act.put, List.setIfInBounds_toArray, List.set_cons_succ, List.set_cons_zero]; rfl
      refine hoist_skip [] [] 15 rfl (by kernel_rfl) (.inl ⟨rfl, rfl⟩) rfl (a1 := ?_) ?_ ?_
      rotate_left
      · simp only [Act.put, List.setIfInBounds_toArray, List.set_cons_succ, List.set_cons_zero]; rfl
      refine hoist_skip [] [] 16 rfl (by kernel_rfl) (.inl ⟨rfl, rfl⟩) rfl (a1 := ?_) ?_ ?_
      rotate_left
      · simp only [Act.put, List.setIfInBounds_toArray, List.set_cons_succ, List.set_cons_zero]; rfl
      refine hoist [] [] (a1 := ?_) 17 rfl (by kernel_rfl) (.inl ⟨rfl, rfl⟩) rfl rfl rfl (fun x K hK => ?_) ?_
      rotate_left
      · go_big_quiet_op
        exact hK
      refine hoist [] [] (a1 := ?_) 18 rfl (by kernel_rfl) (.inl ⟨rfl, rfl⟩) rfl rfl rfl (fun x K hK => ?_) ?_
      rotate_left
      · go_big_quiet_op
        exact hK
      refine hoist [] [] (a1 := ?_) 19 rfl (by kernel_rfl) (.inl ⟨rfl, rfl⟩) rfl rfl rfl (fun x K hK => ?_) ?_
      rotate_left
      · go_big_quiet_op
        exact hK
      refine hoist [] [] (a1 := ?_) 20 rfl (by kernel_rfl) (.inl ⟨rfl, rfl⟩) rfl rfl rfl (fun x K hK => ?_) ?_
      rotate_left
      · go_big_quiet_op
        exact hK
      refine hoist [] [] (a1 := ?_) 22 rfl (by kernel_rfl) (.inl ⟨rfl, rfl⟩) rfl rfl rfl (fun x K hK => ?_) ?_
      rotate_left
      · go_big_quiet_op
        exact hK
      refine hoist [] [] (a1 := ?_) 23 rfl (by kernel_rfl) (.inl ⟨rfl, rfl⟩) rfl rfl rfl (fun x K hK => ?_) ?_
      rotate_left
      · go_big_quiet_op
        exact hK
      refine hoist [] [] (a1 := ?_) 24 rfl (by kernel_rfl) (.inl ⟨rfl, rfl⟩) rfl rfl rfl (fun x K hK => ?_) ?_
      rotate_left
      · go_big_quiet_op
        exact hK
      refine hoist [] [] (a1 := ?_) 25 rfl (by kernel_rfl) (.inl ⟨rfl, rfl⟩) rfl rfl rfl (fun x K hK => ?_) ?_
      rotate_left
      · go_big_quiet_op
        exact hK
      refine hoist [] [] (a1 := ?_) 26 rfl (by kernel_rfl) (.inl ⟨rfl, rfl⟩) rfl rfl rfl (fun x K hK => ?_) ?_
      rotate_left
      · go_big_quiet_op
        exact hK
      refine effect 21 rfl (by kernel_rfl) (by kernel_rfl) rfl (fun x21 K hK => ?_)
      go_simp
      refine Calls.mono (cL x21.now x21.bw).out ?_
      rintro e wq ⟨rfl, rfl⟩
      refine hK _ _ (Still.refl _ _) ?_
      clear hK K
      have W1 := Lib.hid x21.bw
      try simp only [Act.put, List.setIfInBounds_toArray, List.set_cons_succ, List.set_cons_zero]
      refine hoist [] [] (a1 := ?_) 27 rfl (by kernel_rfl) (.inl ⟨rfl, rfl⟩) rfl rfl rfl (fun x K hK => ?_) ?_
      rotate_left
      · go_big_quiet_op
        exact hK
      refine hoist [] [] (a1 := ?_) 28 rfl (by kernel_rfl) (.inl ⟨rfl, rfl⟩) rfl rfl rfl (fun x K hK => ?_) ?_
      rotate_left
      · go_big_quiet_op
        exact hK
      refine hoist [] [] (a1 := ?_) 29 rfl (by kernel_rfl) (.inl ⟨rfl, rfl⟩) rfl rfl rfl (fun x K hK => ?_) ?_
      rotate_left
      · go_big_quiet_op
        exact hK
      refine hoist [] [] (a1 := ?_) 30 rfl (by kernel_rfl) (.inl ⟨rfl, rfl⟩) rfl rfl rfl (fun x K hK => ?_) ?_
      rotate_left
      · go_big_quiet_op
        exact hK
      refine hoist [] [] (a1 := ?_) 32 rfl (by kernel_rfl) (.inl ⟨rfl, rfl⟩) rfl rfl rfl (fun x K hK => ?_) ?_
      rotate_left
      · go_big_quiet_op
        exact hK
      refine effect 31 rfl (by kernel_rfl) (by kernel_rfl) rfl (fun x31 K hK => ?_)
      go_simp
      refine Calls.mono (cS x31.now (W1.out.trans x31.bw)).out ?_
      rintro e wq ⟨rfl, rfl⟩
      refine hK _ _ (Still.refl _ _) ?_
      clear hK K
      have W2 := Lib.hid (W1.out.trans x31.bw)
      try simp only [Act.put, List.setIfInBounds_toArray, List.set_cons_succ, List.set_cons_zero]
      refine effect 33 rfl (by kernel_rfl) (by kernel_rfl) rfl (fun x33 K hK => ?_)
      go_simp
      refine Calls.mono (cR x33.now (W2.out.trans x33.bw)).out ?_
      rintro e wq ⟨rfl, rfl⟩
      refine hK _ _ (Still.refl _ _) ?_
      clear hK K
      have W3 := Lib.hid (W2.out.trans x33.bw)
      try simp only [Act.put, List.setIfInBounds_toArray, List.set_cons_succ, List.set_cons_zero]
      refine hoist [] [] (a1 := ?_) 34 rfl (by kernel_rfl) (.inl ⟨rfl, rfl⟩) rfl rfl rfl (fun x K hK => ?_) ?_
      rotate_left
      · go_big_quiet_op
        exact hK
      refine hoist [] [] (a1 := ?_) 35 rfl (by kernel_rfl) (.inl ⟨rfl, rfl⟩) rfl rfl rfl (fun x K hK => ?_) ?_
      rotate_left
      · go_big_quiet_op
        exact hK
      refine hoist [] [] (a1 := ?_) 36 rfl (by kernel_rfl) (.inl ⟨rfl, rfl⟩) rfl rfl rfl (fun x K hK => ?_) ?_
      rotate_left
      · go_big_quiet_op
        exact hK
      refine hoist [] [] (a1 := ?_) 37 rfl (by kernel_rfl) (.inl ⟨rfl, rfl⟩) rfl rfl rfl (fun x K hK => ?_) ?_
      rotate_left
      · go_big_quiet_op
        exact hK
      refine hoist [] [] (a1 := ?_) 39 rfl (by kernel_rfl) (.inl ⟨rfl, rfl⟩) rfl rfl rfl (fun x K hK => ?_) ?_
      rotate_left
      · go_big_quiet_op
        exact hK
      refine effect 38 rfl (by kernel_rfl) (by kernel_rfl) rfl (fun x38 K hK => ?_)
      go_simp
      refine Calls.mono (cL x38.now (W3.out.trans x38.bw)).out ?_
      rintro e wq ⟨rfl, rfl⟩
      refine hK _ _ (Still.refl _ _) ?_
      clear hK K
      have W4 := Lib.hid (W3.out.trans x38.bw)
      try simp only [Act.put, List.setIfInBounds_toArray, List.set_cons_succ, List.set_cons_zero]
      refine hoist [] [] (a1 := ?_) 40 rfl (by kernel_rfl) (.inl ⟨rfl, rfl⟩) rfl rfl rfl (fun x K hK => ?_) ?_
      rotate_left
      · go_big_quiet_op
        exact hK
      refine hoist [] [] (a1 := ?_) 41 rfl (by kernel_rfl) (.inl ⟨rfl, rfl⟩) rfl rfl rfl (fun x K hK => ?_) ?_
      rotate_left
      · go_big_quiet_op
        exact hK
      refine hoist [] [] (a1 := ?_) 42 rfl (by kernel_rfl) (.inl ⟨rfl, rfl⟩) rfl rfl rfl (fun x K hK => ?_) ?_
      rotate_left
      · go_big_quiet_op
        exact hK
      refine hoist [] [] (a1 := ?_) 43 rfl (by kernel_rfl) (.inl ⟨rfl, rfl⟩) rfl rfl rfl (fun x K hK => ?_) ?_
      rotate_left
      · go_big_quiet_op
        exact hK
      refine hoist [] [] (a1 := ?_) 45 rfl (by kernel_rfl) (.inl ⟨rfl, rfl⟩) rfl rfl rfl (fun x K hK => ?_) ?_
      rotate_left
      · go_big_quiet_op
        exact hK
      refine effect 44 rfl (by kernel_rfl) (by kernel_rfl) rfl (fun x44 K hK => ?_)
      go_simp
      refine Calls.mono (cS x44.now (W4.out.trans x44.bw)).out ?_
      rintro e wq ⟨rfl, rfl⟩
      refine hK _ _ (Still.refl _ _) ?_
      clear hK K
      have W5 := Lib.hid (W4.out.trans x44.bw)
      try simp only [Act.put, List.setIfInBounds_toArray, List.set_cons_succ, List.set_cons_zero]
      refine hoist [] [] (a1 := ?_) 46 rfl (by kernel_rfl) (.inl ⟨rfl, rfl⟩) rfl rfl rfl (fun x K hK => ?_) ?_
      rotate_left
      · go_big_quiet_op
        exact hK
      refine hoist [] [] (a1 := ?_) 47 rfl (by kernel_rfl) (.inl ⟨rfl, rfl⟩) rfl rfl rfl (fun x K hK => ?_) ?_
      rotate_left
      · go_big_quiet_op
        exact hK
      refine done (by kernel_rfl) (fun xr => ?_)
      clear t5
      have W6 := W5.out.trans xr.bw
      have J6 := Lib.hid (J4.out.bw W6)
      have B6 := Lib.hid (B4.out.trans W6)
      have hss := sort_same L M J4.out.sp
      have cI := Lib.hid (indices_any w.heap.size g pk by_ v L xr.now J6.out.ring (by omega))
      have hml := hML.out
      clear W1 W2 W3 W4 W5 W6 cL cS cR t1 t2 t3 t4 l2 l3 E1 J4 B4 O4'
      generalize xr.now = w6 at *
      replace hss := Lib.hid hss
      go_wp2_with fail
      refine Calls.mono cI.out ?_
      rintro e w7 ⟨u7, rfl, O7, hb⟩
      have J7 := Lib.hid (J6.out.bw hb)
      have B7 := Lib.hid (B6.out.trans hb)
      have cT := Lib.hid (rsorted_any w.heap.size rg pk by_ _ _ M w7 J7.out.ref (by omega) B7.out.size)
      replace O7 := Lib.hid O7
      obtain ⟨s7, c7, rfl, _, _⟩ := O7.out.len
      clear cI hb J6 B6
      dsimp only
      go_wp2_with fail
      refine Calls.mono cT.out ?_
      rintro e w8 ⟨u8, rfl, O8, hb⟩
      have J8 := Lib.hid (J7.out.bw hb)
      have B8 := Lib.hid (B7.out.trans hb)
      have O9 := Lib.hid (O7.out.bw hb)
      rw [hss.out, show (L.map Prod.fst).length = L.length from by simp] at O8
      obtain ⟨s8, c8, rfl, hn8, hm8⟩ := O8.len
      obtain ⟨_, _, he7, hn7, hm7⟩ := O9.out.len
      simp only [Value.slice.injEq, true_and] at he7
      obtain ⟨rfl, rfl⟩ := he7
      unfold maxLen at hm7 hm8
      replace O8 := Lib.hid O8
      have hmf : (L.map Prod.fst).length = L.length := by simp
      have t6 : ((L.length : Int) != (L.length : Int)) = false := by simp
      clear cT hb J7 B7 O7
      generalize L.map Prod.fst = IX at *
      generalize hLn : L.length = nL at *
      replace hmf := Lib.hid hmf
      replace hLn := Lib.hid hLn
      dsimp only
      go_upto_region 30 with (fail)
      clear t6
      obtain ⟨wh, rfl⟩ : ∃ y, y = w8 := ⟨_, rfl⟩
      go_loopg [16] nL (fun m' i wx => ∃ q : Nat, m' = nL - q ∧ q ≤ nL ∧ i = .int .i64 (q : Nat) ∧ Hid (BW wh wx))
      case atStart => exact ⟨0, by omega, by omega, rfl, BW.refl _⟩
      case round =>
        obtain ⟨q, rfl, hq, rfl, BQ⟩ := hrel
        by_cases hqn : q < nL
        · have t7 : decide ((q : Int) < (nL : Int)) = true := by simp; omega
          obtain ⟨g7, o7, rfl, hc7⟩ := i1_form (O9.out.bw BQ.out) (by omega)
          obtain ⟨g8, o8, rfl, hc8⟩ := i1_form (O8.out.bw BQ.out) (by omega)
          have y7 := hc7 q (by rw [hmf.out]; exact hqn)
          have y8 := hc8 q (by rw [hmf.out]; exact hqn)
          clear hc7 hc8
          generalize (IX[q]'(by rw [hmf.out]; exact hqn)) = ix at *
          have t8 : (ix != ix) = false := by simp
          go_upto_region 32 with (fail)
          have l7 := fun y : LaterS [] wr => y.cell y7 (by simp)
          have l8 := fun y : LaterS [] wr => y.cell y8 (by simp)
          clear y7 y8
          refine wp_region_gg [] [] [] (by kernel_rfl) ?_
          refine hoist [] [] (a1 := ?_) 0 rfl (by kernel_rfl) (.inl ⟨rfl, rfl⟩) rfl rfl rfl (fun x K hK => ?_) ?_
          rotate_left
          · go_big_quiet_op
            exact hK
          refine hoist [] [] (a1 := ?_) 1 rfl (by kernel_rfl) (.inl ⟨rfl, rfl⟩) rfl rfl rfl (fun x K hK => ?_) ?_
          rotate_left
          · go_big_quiet_op
            exact hK
          refine hoist [] [] (a1 := ?_) 2 rfl (by kernel_rfl) (.inl ⟨rfl, rfl⟩) rfl rfl rfl (fun x K hK => ?_) ?_
          rotate_left
          · go_big_quiet_op
            exact hK
          refine hoist [] [] (a1 := ?_) 3 rfl (by kernel_rfl) (.inl ⟨rfl, rfl⟩) rfl rfl rfl (fun x K hK => ?_) ?_
          rotate_left
          · go_big_quiet_op
            exact hK
          refine hoist [] [] (a1 := ?_) 4 rfl (by kernel_rfl) (.inl ⟨rfl, rfl⟩) rfl rfl rfl (fun x K hK => ?_) ?_
          rotate_left
          · go_big_quiet_op
            exact hK
          refine hoist [] [] (a1 := ?_) 5 rfl (by kernel_rfl) (.inl ⟨rfl, rfl⟩) rfl rfl rfl (fun x K hK => ?_) ?_
          rotate_left
          · go_big_quiet_op
            exact hK
          refine hoist [] [] (a1 := ?_) 6 rfl (by kernel_rfl) (.inl ⟨rfl, rfl⟩) rfl rfl rfl (fun x K hK => ?_) ?_
          rotate_left
          · go_big_quiet_op
            exact hK
          refine hoist [] [] (a1 := ?_) 7 rfl (by kernel_rfl) (.inl ⟨rfl, rfl⟩) rfl rfl rfl (fun x K hK => ?_) ?_
          rotate_left
          · go_big_quiet_op
            exact hK
          refine hoist [] [] (a1 := ?_) 8 rfl (by kernel_rfl) (.inl ⟨rfl, rfl⟩) rfl rfl rfl (fun x K hK => ?_) ?_
          rotate_left
          · go_big_quiet_op
            exact hK
          refine done (by kernel_rfl) (fun xr => ?_)
          have BY := Lib.hid (BQ.out.trans xr.bw)
          clear l7 l8 t8 t7
          go_wp2_with fail
          go_roundg (nL - (q + 1))
          case measure => omega
          case rel => exact ⟨q + 1, rfl, by omega, by push_cast; rfl, BY⟩
        · obtain rfl : q = nL := by omega
          have t7 : decide ((q : Int) < (q : Int)) = false := by simp
          have J9 := Lib.hid (J8.out.bw BQ.out)
          have B9 := Lib.hid (B8.out.trans BQ.out)
          clear J8 B8 O8 O9 BQ
          go_wp2_with fail
          go_roundg (len - (j + 1))
          case measure => omega
          case rel => exact ⟨j + 1, v, _, _, L, M, rfl, by omega, by push_cast; rfl, by omega, J9, by rw [hLn.out]; omega, hz, by rw [hLn.out]; exact hlp, hzb, B9⟩
end Go.Proofs.Ytgiajnfmjpdodaa
