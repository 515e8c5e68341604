/- The document's example of the buffer that puts into order. No condition. -/
import Derived.Test.YtcempndfbckcaaaReX
namespace Go.Proofs.Ytcempndfbckcaaa
open Go.RowKit

theorem kp_form {T : TypeId} {w : World} {base : Nat} {sv : Option Addr} {n cap : Nat} {L : PL} (h : EQ IB T w base (.slice sv n cap) n L) (h0 : 0 < n) :
    ∃ g o, sv = some ⟨g, o, none⟩ ∧ n ≤ cap ∧ cap ≤ maxLen ∧ ∀ i (hi : i < L.length), ∃ s cb, w.cell? ⟨g, o + i * 2, none⟩ = some (.int .i64 (L[i]).1) ∧ w.cell? ⟨g, o + i * 2 + 1, none⟩ = some (.slice s (L[i]).2.length cb) ∧ OB w base 5 (.slice s (L[i]).2.length cb) (L[i]).2.length (L[i]).2 := by
  obtain ⟨g, o, cap', hsl, _, _, hc1, hc2, hce⟩ := h.form h0
  simp only [Value.slice.injEq] at hsl
  refine ⟨g, o, hsl.1, by omega, by omega, fun i hi => ?_⟩
  obtain ⟨c, ⟨u, hc, hu⟩, hcc⟩ := hce i hi
  have z0 := hcc 0 (by decide)
  have z1 := hcc 1 (by decide)
  rw [hc] at z0 z1
  have e2 : IB.size = 2 := rfl
  rw [e2] at z0 z1
  obtain ⟨s, cb, rfl, _, _⟩ := hu.len
  exact ⟨s, cb, z0, z1, hu⟩
/-- A buffer made behind world w0. -/
structure BufA (w0 w : World) (g0 : Nat) (sa : Option Addr) (cv : Nat) (S : BS) (H : List Ent) : Prop where
  i : BufI w w0.heap.size g0 sa cv S H
  b : BW w0 w
  g : w0.heap.size ≤ g0
theorem BufA.bw {w0 w w' : World} {g0 sa cv S H} (h : BufA w0 w g0 sa cv S H) (hb : BW w w') : BufA w0 w' g0 sa cv S H := ⟨h.i.bw hb, h.b.trans hb, h.g⟩
/-- What is turned lies behind w0. -/
theorem BufA.new {w0 w : World} {g0 sa cv S H} (h : BufA w0 w g0 sa cv S H) : ∀ k ∈ g0 :: (Value.slice sa S.L.length cv).ownBlock.toList, w0.heap.size ≤ k := fun k hk => by
  rcases List.mem_cons.1 hk with rfl | hk
  · exact h.g
  · exact h.i.eq.ge' k (by simpa using hk)
theorem BufA.noB {w0 w : World} {g0 sa cv S H} (h : BufA w0 w g0 sa cv S H) : ∀ k ∈ g0 :: (Value.slice sa S.L.length cv).ownBlock.toList, NoB w k := fun k hk => by
  rcases List.mem_cons.1 hk with rfl | hk
  · exact .inr ⟨_, _, _, h.i.hp, by decide⟩
  · exact h.i.eq.noB (by decide) k hk
/-- What was told stays. -/
theorem BufA.told {w0 w w' : World} {g0 sa cv S H} (h : BufA w0 w g0 sa cv S H) (T : Still (g0 :: (Value.slice sa S.L.length cv).ownBlock.toList) w w') {base : Nat} {v : Value} {n : Nat} {l : PL} (q : EQ IB 70 w base v n l) : EQ IB 70 w' base v n l :=
  q.still T h.noB fun k hk hm => by
    rcases List.mem_cons.1 hm with rfl | hm
    · exact q.ne h.i.hp (by decide) k hk rfl
    · obtain ⟨cs, hh⟩ := h.i.eq.row k (by simpa using hm)
      exact q.ne hh (by decide) k hk rfl
theorem bnewA (many wait : Int) (h : 1 ≤ many ∧ many ≤ 64) (hw : 0 ≤ wait) (w0 w : World) (B : BW w0 w) :
    Calls Try.prog 35 #[.int .i64 many, .int .i64 wait] w fun e w' => ∃ g0, e = .returned (.pointer (some ⟨g0, 0, none⟩)) ∧ BufA w0 w' g0 none 0 (newS many wait) [] := by
  refine (bnew_ok many wait h hw w).mono ?_
  rintro e w' ⟨rfl, I, hb⟩
  exact ⟨_, rfl, ⟨I.hp, EQ.nil _ _ _ _, I.hh, I.pm, I.ok, I.ow⟩, B.trans hb, B.size⟩
theorem bk_new (many wait : Int) (h : 0 ≤ many) (d : Int) (hd : 0 ≤ d) : BK (newS many wait) many d := by
  refine ⟨⟨?_, ?_, ?_, ?_, ?_, ?_⟩, rfl, ?_, ?_⟩
  · intro x hx; simp [newS] at hx
  · intro x hx; simp [newS] at hx
  · simp [newS]
  · simp [newS]
  · intro h; simp [newS] at h
  · show (0 : Int) ≤ 0 ∧ (0 : Int) ≤ max (-1) 0
    omega
  · simpa [newS] using h
  · exact ⟨Int.le_refl _, hd⟩
theorem putA (g0 cv n cb : Nat) (sa sb : Option Addr) (S S1 : BS) (H : List Ent) (i tick : Int) (b : List Nat) (l : PL) (k er : Nat) (many d : Int) (hR : putS i tick b S = (S1, l, er)) (hkl : l.length = k) (hk : BK S many d) (hm : many ≤ 64) (hd : d ≤ 1000) (hi : i ≤ 1152921504606846976) (ht : -1152921504606846976 ≤ tick ∧ tick ≤ 1152921504606846976) (hnl : b.length = n) (hnm : n ≤ 1000000) (w0 w : World) (h : BufA w0 w g0 sa cv S H) (hV : SB w (.slice sb n cb) n b) :
    Calls Try.prog 36 #[.pointer (some ⟨g0, 0, none⟩), .int .i64 i, .int .i64 tick, .slice sb n cb] w fun e w' => ∃ H' sb cc so co, e = .returned (.tuple #[.slice so k co, .int .i64 (er : Nat)]) ∧ EQ IB 70 w' w0.heap.size (.slice so k co) k l ∧ BufA w0 w' g0 sb cc S1 H' ∧ Still (g0 :: (Value.slice sa S.L.length cv).ownBlock.toList) w w' ∧ ∀ j, (Value.slice so k co).ownBlock = some j → w.heap.size ≤ j := by
  refine (put_any w0.heap.size g0 cv n cb sa sb S H i tick b many d hk hm hd hi ht hnl hnm w h.b.size h.i hV).mono ?_
  rw [hR]
  rintro e w' ⟨H', sb, cc, so, co, rfl, Q, I, T, G⟩
  dsimp only at Q I G ⊢
  rw [hkl] at Q ⊢
  exact ⟨H', sb, cc, so, co, rfl, Q, ⟨I, BW.stP h.b T h.new, h.g⟩, T, fun j hj => (G j).2 (by cases so <;> exact hj)⟩
def aS1 : BS := ⟨2, 10, 6, [], 0, 0⟩
def aS2 : BS := ⟨2, 10, 6, [⟨7, [], 0⟩], 0, 0⟩
def aS3 : BS := ⟨2, 10, 8, [], 0, 0⟩
def aS4 : BS := ⟨2, 10, 8, [⟨9, [], 0⟩], 0, 0⟩
def aS5 : BS := ⟨2, 10, 8, [⟨9, [], 0⟩, ⟨10, [], 0⟩], 0, 0⟩
def aS6 : BS := ⟨2, 10, 12, [], 1, 0⟩
theorem aP1 : putS 5 0 [] (newS 2 10) = (aS1, [(5, [])], 0) := by kernel_rfl
theorem aP2 : putS 7 0 [] aS1 = (aS2, [], 0) := by kernel_rfl
theorem aP3 : putS 6 0 [] aS2 = (aS3, [(6, []), (7, [])], 0) := by kernel_rfl
theorem aP4 : putS 9 0 [] aS3 = (aS4, [], 0) := by kernel_rfl
theorem aP5 : putS 10 0 [] aS4 = (aS5, [], 0) := by kernel_rfl
theorem aP6 : putS 11 0 [] aS5 = (aS6, [(9, []), (10, []), (11, [])], 0) := by kernel_rfl
theorem aK {i tick : Int} {b : List Nat} {S S1 : BS} {l : PL} {er : Nat} {d : Int} (hk : BK S 2 d) (hR : putS i tick b S = (S1, l, er)) (hi : i ≤ 1152921504606846976) (ht : -1152921504606846976 ≤ tick ∧ tick ≤ 1152921504606846976) : BK S1 2 (d + 1) := by
  have := (put_ok i tick b S 2 d hk (by decide) hi ht).1
  rw [hR] at this
  exact this
set_option maxRecDepth 100000 in
set_option maxHeartbeats 8000000 in
theorem re_alive (w : World) : Calls Try.prog 34 #[] w fun e w' => e = .returned (.bool true) ∧ BW w w' := by
  have k0 := bk_new 2 10 (by decide) 0 (by decide)
  have k1 := aK k0 aP1 (by decide) (by decide)
  have k2 := aK k1 aP2 (by decide) (by decide)
  have k3 := aK k2 aP3 (by decide) (by decide)
  have k4 := aK k3 aP4 (by decide) (by decide)
  have k5 := aK k4 aP5 (by decide) (by decide)
  replace k0 := Lib.hid k0
  replace k1 := Lib.hid k1
  replace k2 := Lib.hid k2
  replace k3 := Lib.hid k3
  replace k4 := Lib.hid k4
  replace k5 := Lib.hid k5
  have cN := Lib.hid (bnewA 2 10 (by decide) (by decide) w w (BW.refl w))
  go_enter Try.func34, Try.ntmps34
  go_wp2_with fail
  refine Calls.mono cN.out ?_
  rintro e w1 ⟨g0, rfl, A1⟩
  clear cN
  have c1 := Lib.hid (putA g0 0 0 0 none none _ _ _ 5 0 [] _ 1 0 2 0 aP1 rfl k0.out (by decide) (by decide) (by decide) (by decide) rfl (by decide) w w1 A1 (OB.nil _ 0 5).sb)
  clear A1
  dsimp only
  go_wp2_with fail
  refine Calls.mono c1.out ?_
  rintro e w2 ⟨H2, s2, cc2, so1, co1, rfl, -, A2, -⟩
  clear c1
  have c2 := Lib.hid (putA g0 _ 0 0 _ none _ _ _ 7 0 [] _ 0 0 2 _ aP2 rfl k1.out (by decide) (by decide) (by decide) (by decide) rfl (by decide) w w2 A2 (OB.nil _ 0 5).sb)
  clear A2
  dsimp only
  go_wp2_with fail
  refine Calls.mono c2.out ?_
  rintro e w3 ⟨H3, s3, cc3, so2, co2, rfl, -, A3, -⟩
  clear c2
  have c3 := Lib.hid (putA g0 _ 0 0 _ none _ _ _ 6 0 [] _ 2 0 2 _ aP3 rfl k2.out (by decide) (by decide) (by decide) (by decide) rfl (by decide) w w3 A3 (OB.nil _ 0 5).sb)
  clear A3
  dsimp only
  go_wp2_with fail
  refine Calls.mono c3.out ?_
  rintro e w4 ⟨H4, s4, cc4, so3, co3, rfl, Q4, A4, -⟩
  clear c3
  have c4 := Lib.hid (putA g0 _ 0 0 _ none _ _ _ 9 0 [] _ 0 0 2 _ aP4 rfl k3.out (by decide) (by decide) (by decide) (by decide) rfl (by decide) w w4 A4 (OB.nil _ 0 5).sb)
  replace A4 := Lib.hid A4
  replace Q4 := Lib.hid Q4
  dsimp only
  go_wp2_with fail
  refine Calls.mono c4.out ?_
  rintro e w5 ⟨H5, s5, cc5, so4, co4, rfl, -, A5, T5, -⟩
  clear c4
  have Q5 := Lib.hid (A4.out.told T5 Q4.out)
  have c5 := Lib.hid (putA g0 _ 0 0 _ none _ _ _ 10 0 [] _ 0 0 2 _ aP5 rfl k4.out (by decide) (by decide) (by decide) (by decide) rfl (by decide) w w5 A5 (OB.nil _ 0 5).sb)
  clear A4 T5 Q4
  replace A5 := Lib.hid A5
  dsimp only
  go_wp2_with fail
  refine Calls.mono c5.out ?_
  rintro e w6 ⟨H6, s6, cc6, so5, co5, rfl, -, A6, T6, -⟩
  clear c5
  have Q6 := Lib.hid (A5.out.told T6 Q5.out)
  have c6 := Lib.hid (putA g0 _ 0 0 _ none _ _ _ 11 0 [] _ 3 0 2 _ aP6 rfl k5.out (by decide) (by decide) (by decide) (by decide) rfl (by decide) w w6 A6 (OB.nil _ 0 5).sb)
  clear A5 T6 Q5
  replace A6 := Lib.hid A6
  dsimp only
  go_wp2_with fail
  refine Calls.mono c6.out ?_
  rintro e w7 ⟨H7, s7, cc7, so6, co6, rfl, Q7, A7, T7, -⟩
  clear c6
  have Q8 := A6.out.told T7 Q6.out
  obtain ⟨ga, oa, rfl, ha1, ha2, hac⟩ := kp_form Q8 (by decide)
  obtain ⟨_, _, z0, -⟩ := hac 1 (by decide)
  obtain ⟨gd, od, rfl, hd1, hd2, hdc⟩ := kp_form Q7 (by decide)
  obtain ⟨_, _, z1, -⟩ := hdc 0 (by decide)
  have cP := Lib.hid (passed_any w.heap.size g0 cc7 s7 aS6 H7 w7 A7.i)
  have B7 := Lib.hid A7.b
  clear A6 T7 Q6 Q7 Q8 hac hdc A7
  unfold maxLen at ha2 hd2
  simp only [Nat.zero_mul, Nat.one_mul, Nat.add_zero, List.getElem_cons_zero, List.getElem_cons_succ] at z0 z1
  dsimp only
  go_wp2_with (first | (go_at_call 38; refine cP.out.mono ?_; rintro e w8 ⟨rfl, rfl⟩; clear cP))
  go_ret
  exact ⟨rfl, B7.out⟩
end Go.Proofs.Ytcempndfbckcaaa
