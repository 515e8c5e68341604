/- Packets put into order: Flush, walked. No condition but the sizes'. -/
import Derived.Test.YtcempndfbckcaaaReM
namespace Go.Proofs.Ytcempndfbckcaaa
open Go.RowKit

set_option maxRecDepth 100000 in
set_option maxHeartbeats 8000000 in
theorem flush_any (base g0 cv : Nat) (sa : Option Addr) (S : BS) (H : List Ent) (hn : S.L.length ≤ 1000) (w : World) (hb0 : base ≤ w.heap.size) (h : BufI w base g0 sa cv S H) :
    Calls Try.prog 42 #[.pointer (some ⟨g0, 0, none⟩)] w fun e w' => ∃ H' so co, e = .returned (.slice so (flushS S.L.length S).2.length co) ∧ EQ IB 70 w' base (.slice so (flushS S.L.length S).2.length co) (flushS S.L.length S).2.length (flushS S.L.length S).2 ∧ BufI w' base g0 sa cv (flushS S.L.length S).1 H' ∧ Still (g0 :: (Value.slice sa S.L.length cv).ownBlock.toList) w w' ∧ (∀ j, (Value.slice so (flushS S.L.length S).2.length co).ownBlock = some j → w.heap.size ≤ j) := by
  obtain ⟨R, hR⟩ : ∃ R, flushS S.L.length S = R := ⟨_, rfl⟩
  rw [hR]
  obtain ⟨W, hW⟩ : ∃ W, g0 :: (Value.slice sa S.L.length cv).ownBlock.toList = W := ⟨_, rfl⟩
  rw [hW]
  have hI := Lib.hid h
  have hWl : ∀ k ∈ W, k < w.heap.size := fun k hk => by
    rw [← hW] at hk
    rcases List.mem_cons.1 hk with rfl | hk
    · exact h.hp.lt
    · exact h.eq.lt' k (by simpa using hk)
  clear h
  replace hb0 := Lib.hid hb0
  replace hR := Lib.hid hR
  replace hW := Lib.hid hW
  replace hWl := Lib.hid hWl
  go_enter Try.func42, Try.ntmps42
  go_upto_region 4 with (fail)
  have hW' : Hid (∀ n, g0 :: (Value.slice sa n cv).ownBlock.toList = W) := Lib.hid (fun n => by rw [← hW.out]; cases sa <;> rfl)
  go_loopg [3] S.L.length (fun m' out wx => ∃ (S' : BS) (H' : List Ent) (so : Option Addr) (co : Nat) (dn : List (Int × List Nat)) (nd : Nat), S'.L.length = m' ∧ dn.length = nd ∧ nd + m' ≤ 1000 ∧ out = .slice so nd co ∧ co ≤ 9223372036854775807 ∧ Hid (R = ((flushS m' S').1, dn ++ (flushS m' S').2)) ∧ Hid (BufI wx base g0 sa cv S' H') ∧ Hid (EQ IB 70 wx base (.slice so nd co) nd dn) ∧ Hid (∀ j, (Value.slice so nd co).ownBlock = some j → w.heap.size ≤ j) ∧ Hid (Still W w wx))
  case atStart => exact ⟨S, H, none, 0, [], 0, rfl, rfl, by omega, rfl, by omega, Lib.hid (by rw [← hR.out]; rfl), hI, EQ.nil _ _ _ _, (fun j hj => by simp [Value.ownBlock] at hj), Still.refl _ _⟩
  case round =>
    clear hI hR hn
    obtain ⟨S', H', so, co, dn, nd, rfl, hnd, hns, rfl, hco, hR, hI, hO, hG, hT⟩ := hrel
    by_cases he : S'.L.length = 0
    · have m1 : wr.cell? ⟨g0, 3, none⟩ = some (.slice sa 0 cv) := ((hp_cell hI.out.hp 3).trans (by rw [← he]; rfl))
      have hRR : R = (S', dn) := by rw [hR.out, he]; simp [flushS]
      replace hRR := Lib.hid hRR
      go_wp2_with fail
      go_ret
      have hRR := hRR.out
      refine ⟨H', so, co, by rw [hRR]; show _ = Ending.returned (.slice so dn.length co); rw [hnd]; rfl, ?_, ?_, hT.out, fun j hj => hG.out j (by cases so <;> exact hj)⟩
      · rw [hRR]
        show EQ IB _ wr base (.slice so dn.length co) dn.length dn
        rw [hnd]
        exact hO.out
      · rw [hRR]; exact hI.out
    · have h0 : 0 < S'.L.length := by omega
      have m1 : wr.cell? ⟨g0, 3, none⟩ = some (.slice sa S'.L.length cv) := ((hp_cell hI.out.hp 3).trans rfl)
      have hpop := Lib.hid (fun (wx : World) (B : BW wr wx) => bpop_st base g0 cv sa S' H' h0 (by omega) wx (hI.out.bw B))
      have hR1 : R = ((flushS (takeS S').L.length (takeS S')).1, (dn ++ [(S'.top.i, S'.top.b)]) ++ (flushS (takeS S').L.length (takeS S')).2) := by
        rw [hR.out, ← take_len h0, flushS, if_pos h0]
        simp
      have htl := Lib.hid (take_len h0)
      replace hR1 := Lib.hid hR1
      have d0 : decide ((0 : Int) < (S'.L.length : Nat)) = true := by simp; omega
      generalize S'.L.length = ln at *
      generalize S'.top = E at *
      have B4 := Lib.hid (BW.refl wr)
      obtain ⟨w4, hw4⟩ : ∃ w4, w4 = wr := ⟨_, rfl⟩
      subst hw4
      have O4 := hO.out.bw B4.out
      have I4 := hI.out.bw B4.out
      have N4 : ∀ k ∈ W, NoB w4 k := fun k hk => by
        rw [← hW'.out ln] at hk
        rcases List.mem_cons.1 hk with rfl | hk
        · exact .inr ⟨_, _, _, I4.hp, by decide⟩
        · exact I4.eq.noB (by decide) k (by cases sa <;> exact hk)
      have T4 := hT.out.trans (B4.out.still W)
      have K5 := Lib.hid (fun (w5 : World) (T5 : Still W w4 w5) => (show EQ IB 70 w5 base (.slice so nd co) nd dn from O4.still T5 N4 (fun j hj hm => by have := hG.out j hj; have := hWl.out j hm; omega)))
      have K6 := Lib.hid (fun (w5 : World) (T5 : Still W w4 w5) => T4.trans T5)
      clear O4 I4 N4 T4
      go_wp2_with (first | (go_at_call 78; refine (hpop.out w4 B4.out).mono ?_; rintro e w5 ⟨H2, s, cb, rfl, O5, I5, T5⟩; rw [hW'.out] at T5; have B6 := Lib.hid (show BW w5 (w5.alloc (.cells #[.int .i64 E.i, .slice s E.b.length cb] 70)) from (BW.refl w5).alloc); have L6 := Lib.hid (Sls.new1 (E := IB) w5 70 [.int .i64 E.i, .slice s E.b.length cb] rfl); have Q5 := Lib.hid ((K5.out w5 T5).bw B6.out); have T6 := Lib.hid ((K6.out w5 T5).trans (B6.out.still W)); have R6 : Hid (IB.R (w5.alloc (.cells #[.int .i64 E.i, .slice s E.b.length cb] 70)) base (E.i, E.b) [.int .i64 E.i, .slice s E.b.length cb]) := Lib.hid ⟨_, rfl, O5.bw B6.out⟩; have I6 := Lib.hid (I5.bw B6.out); have hz6 := Lib.hid (Nat.le_trans hb0.out T6.out.size); clear O5 I5 T5 B6 K5 K6) | (at_builtin; go_must (refine wpList_apEQ slKp rfl _ _ rfl base (.slice so nd co) nd dn rfl Q5.out _ rfl 1 [(E.i, E.b)] [.int .i64 E.i, .slice s E.b.length cb] L6.out (EL.single R6.out) rfl (by omega) hz6.out (Q5.out.noB (by decide)) ?_; intro s7 c7 w7 hc7 hm7 Q7 T7 B7 G7; unfold maxLen at hm7; replace Q7 := Lib.hid Q7; replace T7 := Lib.hid T7; replace G7 := Lib.hid G7; clear B7)))
      have hF7 : ∀ k ∈ (Value.slice so nd co).ownBlock.toList, w.heap.size ≤ k := fun k hk => hG.out k (by simpa using hk)
      have I7 := Lib.hid (I6.out.still T7.out (Q5.out.noB (by decide)) (fun hm => by have := hF7 _ hm; have := hWl.out g0 (by rw [← hW'.out 0]; exact List.mem_cons_self); omega) (fun k hk hm => by have := hF7 _ hm; have := hWl.out k (by rw [← hW'.out (takeS S').L.length, hk]; simp); omega))
      have T8 := Lib.hid (T6.out.transF T7.out (fun k hk => .inr (hF7 k hk)))
      have G8 : Hid (∀ j, (Value.slice s7 (nd + 1) c7).ownBlock = some j → w.heap.size ≤ j) := Lib.hid (fun j hj => (G7.out j hj).elim (fun h => hG.out j h) (fun h => Nat.le_trans T6.out.size h))
      go_roundg (takeS S').L.length
      case measure => have := htl.out; omega
      case rel => exact ⟨takeS S', H2, s7, c7, dn ++ [(E.i, E.b)], nd + 1, rfl, by simp [hnd], by have := htl.out; omega, rfl, hm7, Lib.hid (hR1.out), I7, Q7, G8, T8⟩
end Go.Proofs.Ytcempndfbckcaaa
