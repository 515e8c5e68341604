/- Rings: the document's example; no ring. No condition. -/
import Derived.Test.YtgiajnfmjpdodaaRiE
import Derived.Test.YtgiajnfmjpdodaaArB
import Derived.Test.YtgiajnfmjpdodaaBst
import Derived.Test.YtgiajnfmjpdodaaRd
namespace Go.Proofs.Ytgiajnfmjpdodaa
open Go.RowKit

/-- Put, for a law: all of the ring's is new since w0. -/
theorem put_law (w0 : World) (g : Nat) (pk by_ : Int) (v : Value) (L : PL) (x : Int) (bv : Value) (b : List Nat) (w : World) (h : RingV w w0.heap.size g pk by_ v L) (hg : w0.heap.size ≤ g) (hB : BW w0 w) (hs : Srt L) (hn : L.length ≤ 100000) (hl : lensL L ≤ 100000000)
    (hv : SB w bv b.length b) (hbn : b.length ≤ 100000) (p0 : 1 ≤ pk) (p1 : pk ≤ 9223372036854775807) (y0 : 0 ≤ by_) (y1 : by_ ≤ 9223372036854775807) :
    Calls Try.prog 42 #[.pointer (some ⟨g, 0, none⟩), .int .i64 x, bv] w fun e w' => e = .returned (.int .i64 ((putN pk by_ L x b).1 : Nat)) ∧ (∃ v', RingV w' w0.heap.size g pk by_ v' (putN pk by_ L x b).2 ∧ ∀ k, v'.ownBlock = some k → v.ownBlock = some k ∨ w.heap.size ≤ k) ∧ BW w0 w' ∧ Still (g :: v.ownBlock.toList) w w' := by
  refine (put_any w0.heap.size g pk by_ v L x bv b w h hs hn hl hB.size hv hbn p0 p1 y0 y1).mono ?_
  rintro e w' ⟨rfl, ⟨v', H, hG⟩, TS⟩
  exact ⟨rfl, ⟨v', H, hG⟩, BW.stP hB TS (fun k hk => by
    rcases List.mem_cons.1 hk with rfl | hk
    · exact hg
    · exact h.q.ge' k (by simpa using hk)), TS⟩
/-- What leads to no ring's memory stays. -/
theorem RingV.blk {w : World} {base g : Nat} {pk by_ : Int} {v : Value} {L : PL} (h : RingV w base g pk by_ v L) : ∀ k ∈ g :: v.ownBlock.toList, NoB w k := fun k hk => by
  rcases List.mem_cons.1 hk with rfl | hk
  · exact h.noB _ (by simp)
  · exact h.q.noB (by decide) k hk
theorem OB.ring {w w' : World} {base g b2 : Nat} {pk by_ : Int} {v u : Value} {L : PL} {n : Nat} {l : List Nat} (hO : OB w b2 5 u n l) (h : RingV w base g pk by_ v L) (TS : Still (g :: v.ownBlock.toList) w w') : OB w' b2 5 u n l := hO.still TS (NoB.ob hO h.blk)
theorem aL1 : putN 2 10 [] 1 [0, 0, 0, 0] = (0, [(1, [0, 0, 0, 0])]) := by decide
theorem aL2 : putN 2 10 [(1, [0, 0, 0, 0])] 2 [0, 0, 0, 0] = (0, [(1, [0, 0, 0, 0]), (2, [0, 0, 0, 0])]) := by decide
theorem aL3 : putN 2 10 [(1, [0, 0, 0, 0]), (2, [0, 0, 0, 0])] 3 [0, 0, 0, 0] = (0, [(2, [0, 0, 0, 0]), (3, [0, 0, 0, 0])]) := by decide
theorem aS1' : Srt [] := fun i j h1 h2 => by simp at h2
theorem Srt.of {L : PL} (h : L.Pairwise fun a b => a.1 < b.1) : Srt L := fun i j h1 h2 => by
  rw [cl_get (by omega), cl_get h2]
  exact List.pairwise_iff_getElem.1 h i j _ _ h1
set_option maxRecDepth 100000 in
set_option maxHeartbeats 8000000 in
theorem ring_alive (w : World) : Calls Try.prog 40 #[] w fun e w' => e = .returned (.bool true) ∧ BW w w' := by
  have mk : ∀ w, (Instr.makeSlice 22 (.int .i64 4) (.int .i64 4)).run Try.prog w = .ok (.slice (some ⟨w.heap.size, 0, none⟩) 4 4) (w.alloc (.cells (ivA .u8 (zeros 4)) 5)) := fun w => make_u8 4 (by decide) w
  have cN := Lib.hid (ring_new 2 10 w (by decide) (by decide))
  go_enter Try.func40, Try.ntmps40
  go_wp2_with fail
  refine Calls.mono cN.out ?_
  rintro e w1 ⟨rfl, RV, hb⟩
  have H1 := Lib.hid (RV w.heap.size)
  have BA : BW w1 (w1.alloc (.cells (ivA .u8 (zeros 4)) 5)) := (BW.refl _).alloc
  have O1 := Lib.hid (OB.new w1 w.heap.size (zeros 4) 4 hb.size rfl (by decide) (fun x hx => by simp [zeros] at hx; omega))
  have H2 := Lib.hid (H1.out.bw BA)
  have B2 := Lib.hid (hb.trans BA)
  clear cN RV hb BA H1
  have c1 := Lib.hid (put_law w w.heap.size 2 10 (.slice none 0 0) [] 1 _ (zeros 4) _ H2.out (Nat.le_refl _) B2.out aS1' (by decide) (by decide) O1.out.sb (by decide) (by decide) (by decide) (by decide) (by decide))
  rw [show putN 2 10 [] 1 (zeros 4) = (0, [(1, [0, 0, 0, 0])]) from aL1] at c1
  dsimp only
  go_wp2_with fail
  refine Calls.mono c1.out ?_
  rintro e w3 ⟨rfl, ⟨v3, H3, -⟩, B3, T3⟩
  have O3 := Lib.hid (O1.out.ring H2.out T3)
  replace H3 := Lib.hid H3
  have c2 := Lib.hid (put_law w w.heap.size 2 10 v3 [(1, [0, 0, 0, 0])] 2 _ (zeros 4) _ H3.out (Nat.le_refl _) B3 (Srt.of (by decide)) (by decide) (by decide) O3.out.sb (by decide) (by decide) (by decide) (by decide) (by decide))
  rw [show putN 2 10 [(1, [0, 0, 0, 0])] 2 (zeros 4) = (0, [(1, [0, 0, 0, 0]), (2, [0, 0, 0, 0])]) from aL2] at c2
  clear c1 T3 B3 B2 H2 O1
  dsimp only
  go_wp2_with fail
  refine Calls.mono c2.out ?_
  rintro e w4 ⟨rfl, ⟨v4, H4, -⟩, B4, T4⟩
  have O4 := Lib.hid (O3.out.ring H3.out T4)
  replace H4 := Lib.hid H4
  have c3 := Lib.hid (put_law w w.heap.size 2 10 v4 [(1, [0, 0, 0, 0]), (2, [0, 0, 0, 0])] 3 _ (zeros 4) _ H4.out (Nat.le_refl _) B4 (Srt.of (by decide)) (by decide) (by decide) O4.out.sb (by decide) (by decide) (by decide) (by decide) (by decide))
  rw [show putN 2 10 [(1, [0, 0, 0, 0]), (2, [0, 0, 0, 0])] 3 (zeros 4) = (0, [(2, [0, 0, 0, 0]), (3, [0, 0, 0, 0])]) from aL3] at c3
  clear c2 T4 B4 H3 O3
  dsimp only
  go_wp2_with fail
  refine Calls.mono c3.out ?_
  rintro e w5 ⟨rfl, ⟨v5, H5, -⟩, B5, -⟩
  replace H5 := Lib.hid H5
  replace B5 := Lib.hid B5
  have c4 := Lib.hid (get_any w.heap.size w.heap.size 2 10 v5 _ 1 w5 H5.out (Srt.of (by decide)) (by decide) (by decide))
  rw [show isAt [(2, [0, 0, 0, 0]), (3, [0, 0, 0, 0])] 1 = false from by decide] at c4
  clear c3 H4 O4
  dsimp only
  go_wp2_with fail
  refine Calls.mono c4.out ?_
  rintro e w6 ⟨u6, rfl, -, hb⟩
  have H6 := Lib.hid (H5.out.bw hb)
  have B6 := Lib.hid (B5.out.trans hb)
  have c5 := Lib.hid (get_any w.heap.size w.heap.size 2 10 v5 _ 2 w6 H6.out (Srt.of (by decide)) (by decide) (by decide))
  rw [show isAt [(2, [0, 0, 0, 0]), (3, [0, 0, 0, 0])] 2 = true from by decide] at c5
  clear c4 H5 B5 hb
  dsimp only
  go_wp2_with fail
  refine Calls.mono c5.out ?_
  rintro e w7 ⟨u7, rfl, -, hb⟩
  have H7 := Lib.hid (H6.out.bw hb)
  have B7 := Lib.hid (B6.out.trans hb)
  have c6 := Lib.hid (rlen_any w.heap.size w.heap.size 2 10 v5 _ w7 H7.out)
  have c7 := Lib.hid (rsiz_any w.heap.size w.heap.size 2 10 v5 _ w7 H7.out)
  clear c5 H6 B6 hb
  dsimp only
  go_wp2_with fail
  refine Calls.mono c6.out ?_
  rintro e w8 ⟨rfl, rfl⟩
  dsimp only
  go_wp2_with fail
  refine Calls.mono c7.out ?_
  rintro e w8 ⟨rfl, rfl⟩
  dsimp only
  go_wp2_with fail
  go_ret
  exact ⟨rfl, B7.out⟩

theorem nring_get (x : Int) (w : World) : Calls Try.prog 43 #[.pointer none, .int .i64 x] w fun e w' => e = .returned (.tuple #[.slice none 0 0, .bool false]) ∧ w = w' := by
  go_enter Try.func43, Try.ntmps43
  go_wp2_with fail
  go_ret2
  exact ⟨rfl, rfl⟩
theorem nring_put (x : Int) (sa : Option Addr) (n c : Nat) (w : World) : Calls Try.prog 42 #[.pointer none, .int .i64 x, .slice sa n c] w fun e w' => e = .returned (.int .i64 1) ∧ w = w' := by
  go_enter Try.func42, Try.ntmps42
  go_wp2_with fail
  go_ret
  exact ⟨rfl, rfl⟩
theorem nring_len (w : World) : Calls Try.prog 48 #[.pointer none] w fun e w' => e = .returned (.int .i64 0) ∧ w = w' := by
  go_enter Try.func48, Try.ntmps48
  go_wp2_with fail
  go_ret
  exact ⟨rfl, rfl⟩
theorem nring_size (w : World) : Calls Try.prog 49 #[.pointer none] w fun e w' => e = .returned (.int .i64 0) ∧ w = w' := by
  go_enter Try.func49, Try.ntmps49
  go_wp2_with fail
  go_ret
  exact ⟨rfl, rfl⟩
theorem nring_ind (w : World) : Calls Try.prog 51 #[.pointer none] w fun e w' => e = .returned (.slice none 0 0) ∧ w = w' := by
  go_enter Try.func51, Try.ntmps51
  go_wp2_with fail
  go_ret
  exact ⟨rfl, rfl⟩
theorem nring_forget (x : Int) (w : World) : Calls Try.prog 44 #[.pointer none, .int .i64 x] w fun e w' => e = .returned (.int .i64 0) ∧ w = w' := by
  go_enter Try.func44, Try.ntmps44
  go_wp2_with fail
  go_ret
  exact ⟨rfl, rfl⟩
set_option maxRecDepth 100000 in
set_option maxHeartbeats 8000000 in
theorem law_rnone (x : Int) (a : Option Addr) (len cap : Nat) (w : World) (hx : (Lit.int .i64 x).wf = true) (hr : Rd w (.loop (.label 4)) [.slice a len cap]) :
    Calls Try.prog 14 #[.int .i64 x, .slice a len cap] w fun e w' => e = .returned (.bool true) ∧ Below w.heap.size w w' := by
  have ha := Lib.hid (ring_alive w)
  clear hx hr
  go_enter Try.func14, Try.ntmps14
  go_wp2_with fail
  refine Calls.mono ha.out ?_
  rintro e w1 ⟨rfl, B1⟩
  replace B1 := Lib.hid B1
  clear ha
  dsimp only
  go_wp2_with fail
  refine Calls.mono (nring_get x w1) ?_
  rintro e w2 ⟨rfl, rfl⟩
  dsimp only
  go_wp2_with fail
  refine Calls.mono (nring_put x a len cap w1) ?_
  rintro e w2 ⟨rfl, rfl⟩
  dsimp only
  go_wp2_with fail
  refine Calls.mono (nring_len w1) ?_
  rintro e w2 ⟨rfl, rfl⟩
  dsimp only
  go_wp2_with fail
  refine Calls.mono (nring_size w1) ?_
  rintro e w2 ⟨rfl, rfl⟩
  dsimp only
  go_wp2_with fail
  refine Calls.mono (nring_ind w1) ?_
  rintro e w2 ⟨rfl, rfl⟩
  dsimp only
  go_wp2_with fail
  refine Calls.mono (nring_forget x w1) ?_
  rintro e w2 ⟨rfl, rfl⟩
  dsimp only
  go_wp2_with fail
  go_ret
  exact ⟨rfl, B1.out⟩
end Go.Proofs.Ytgiajnfmjpdodaa
