/- The table of tasks: heap.Push, heap.Pop. No condition but the sizes'. -/
import Derived.Test.YtcempndfbckcaaaSeE
namespace Go.Proofs.Ytcempndfbckcaaa
open Go.RowKit

theorem Still.transT {S S2 : List Nat} {w w1 w2 : World} (h1 : Still S w w1) (h2 : Still S2 w1 w2) (h : ∀ k ∈ S2, k ∈ S ∨ w.heap.size ≤ k) : Still S w w2 :=
  ⟨h2.os.trans h1.os, h2.tape.trans h1.tape, h2.output.trans h1.output, Nat.le_trans h1.size h2.size, fun k hk hs => (h2.block k (Nat.lt_of_lt_of_le hk h1.size) (fun hm => by
    rcases h k hm with h3 | h3
    · exact hs h3
    · omega)).trans (h1.block k hk hs)⟩
theorem kT_app {L : List Tk} {E : Tk} : ∀ k, k < L.length → kT (L ++ [E]) k = kT L k := fun k hk => by
  show kf _ _ _ _ = kf _ _ _ _
  rw [kf_get (by simp; omega), kf_get hk, List.getElem_append_left hk]
set_option maxRecDepth 100000 in
set_option maxHeartbeats 8000000 in
theorem tqlen_any (sa : Option Addr) (n cv : Nat) (w : World) :
    Calls Try.prog 175 #[.slice sa n cv] w fun e w' => e = .returned (.int .i64 (n : Nat)) ∧ BW w w' := by
  go_enter Try.func175, Try.ntmps175
  go_wp2_with fail
  go_ret
  exact ⟨rfl, BW.refl w⟩
set_option maxRecDepth 100000 in
set_option maxHeartbeats 8000000 in
theorem thpush_any (base g0 f cv n : Nat) (sa : Option Addr) (c : Array Value) (L : List Tk) (E : Tk) (hn : n < 1000000) (w : World) (hb0 : base ≤ w.heap.size) (hg : (Value.slice sa n cv).ownBlock ≠ some g0) (hp : HpB w g0 (.cells c 141)) (hf : c[f]? = some (.slice sa n cv)) (h : EQ TN 144 w base (.slice sa n cv) n L) (ho : 0 ≤ E.n ∧ E.n ≤ 9223372036854775807) (hh : Hp n (kT L)) :
    Calls Try.prog 75 #[.iface 142 (.pointer (some ⟨g0, f, none⟩)), .iface 144 (.agg (tkC E))] w fun e w' => e = .returned (.tuple #[]) ∧ ∃ sb cc L', cc ≤ maxLen ∧ (L ++ [E]).Perm L' ∧ Hp (n + 1) (kT L') ∧ HpB w' g0 (.cells (c.setIfInBounds f (.slice sb (n + 1) cc)) 141) ∧ EQ TN 144 w' base (.slice sb (n + 1) cc) (n + 1) L' ∧ Still (g0 :: (Value.slice sa n cv).ownBlock.toList) w w' ∧ (∀ j, (Value.slice sb (n + 1) cc).ownBlock = some j → (Value.slice sa n cv).ownBlock = some j ∨ w.heap.size ≤ j) := by
  obtain ⟨_, _, he, hnc, hcm⟩ := h.len
  cases he
  unfold maxLen at hcm
  have hl := h.1
  have hfl : f < c.size := (Array.getElem?_eq_some_iff.1 hf).1
  have hC := Lib.hid (tqpush_any base g0 f cv n sa c L E (by omega) w hb0 hg hp hf h ho)
  have hr := Lib.hid (hh.rise (f' := kT (L ++ [E])) (fun k hk => kT_app k (by omega)))
  have hw0 := Lib.hid hp.lt
  have hgg := Lib.hid hg
  clear h ho hh hp hf hb0 hg
  generalize tkC E = ce at *
  go_enter Try.func75, Try.ntmps75
  go_wp2_with (first | (go_at_call 184; refine hC.out.mono ?_; rintro e w1 ⟨rfl, sb, cc, hm1, P1, Q1, T1, G1⟩; clear hC; have hc1 : w1.cell? ⟨g0, f, none⟩ = some (.slice sb (n + 1) cc) := (by rw [hp_cell P1]; simp [hfl]); have hLn := Lib.hid (fun (k : Nat) (hk : 0 < k) => tq_len hk hc1); replace P1 := Lib.hid P1; replace Q1 := Lib.hid Q1; replace T1 := Lib.hid T1; replace G1 := Lib.hid G1; clear hc1) | (rw [hLn.out]; rotate_left; decide; go_simp) | (go_at_call 175; refine (tqlen_any _ _ _ _).mono ?_; rintro e w2 ⟨rfl, B2⟩; replace B2 := Lib.hid B2))
  have P2 := P1.out.bw B2.out
  have Q2 := Q1.out.bw B2.out
  obtain ⟨g', o', rfl, hgb, -⟩ := tn_form Q2 (by omega)
  have hG' := G1.out g' (by simp [Value.ownBlock])
  have hne : g0 ≠ g' := by
    rintro rfl
    rcases hG' with h1 | h1
    · exact hgg.out h1
    · have := hw0.out; omega
  have hc2 : w2.cell? ⟨g0, f, none⟩ = some (.slice (some ⟨g', o', none⟩) (n + 1) cc) := by rw [hp_cell P2]; simp [hfl]
  refine (tup_any base g0 f g' o' cc (n + 1) n (L ++ [E]) (by omega) (by omega) w2 hne hc2 Q2 hr.out).mono ?_
  rintro e w3 ⟨rfl, L', hp3, hh3, Q3, T3⟩
  have P3 := Lib.hid (P2.st T3 (by simpa using hne))
  have T4 := Lib.hid ((T1.out.trans (B2.out.still (g0 :: (Value.slice sa n cv).ownBlock.toList))).transT T3 (fun k hk => by
    obtain rfl : k = g' := by simpa using hk
    exact hG'.imp_left (fun h => by simp [h])))
  replace hp3 := Lib.hid hp3
  replace hh3 := Lib.hid hh3
  replace Q3 := Lib.hid Q3
  replace T3 := Lib.hid T3
  replace hne := Lib.hid hne
  replace hgg := Lib.hid hgg
  clear P2 Q2 hc2 T3 T1 B2 Q1 P1 hLn
  go_wp2_with fail
  go_end0
  exact ⟨rfl, _, cc, L', hm1, hp3.out, hh3.out, P3.out, Q3.out, T4.out, G1.out⟩
theorem tpop_plain {L L2 : List Tk} {n : Nat} (hL : L.length = n + 1) (h2 : L2.length = n + 1) (hh : Hp (n + 1) (kT L)) (hp : (swapL L 0 n (by omega) (by omega)).Perm L2) (hd : L2.drop n = (swapL L 0 n (by omega) (by omega)).drop n) (hh2 : Hp n (kT L2)) :
    L.Perm (L2[n] :: L2.take n) ∧ (∀ x ∈ L, (L2[n]).key ≤ x.key) ∧ Hp n (kT (L2.take n)) := by
  have e1 : L2[n] = L[0] := by
    have h3 : L2[n]? = L[0]? := by
      have := congrArg (fun l => l[0]?) hd
      simp only [List.getElem?_drop, Nat.add_zero] at this
      rw [this]
      unfold swapL
      rw [List.getElem?_set_self (by simp; omega)]
      simp [List.getElem?_eq_getElem (show 0 < L.length by omega)]
    rw [List.getElem?_eq_getElem (by omega), List.getElem?_eq_getElem (by omega)] at h3
    exact Option.some.inj h3
  have e2 : L2 = L2.take n ++ [L2[n]] := by
    rw [List.take_append_getElem (show n < L2.length by omega), List.take_of_length_le (by omega)]
  refine ⟨(swapL_perm (by omega) (by omega)).trans (hp.trans ?_), ?_, hh2.congr (fun k hk => ?_)⟩
  · have h3 : (L2.take n ++ [L2[n]]).Perm (L2[n] :: L2.take n) := List.perm_append_singleton _ _
    rwa [← e2] at h3
  · intro x hx
    obtain ⟨k, hk, rfl⟩ := List.getElem_of_mem hx
    have := hh.least k (by omega)
    unfold kT at this
    rw [kf_get (by omega), kf_get hk] at this
    rw [e1]; exact this
  · show kf _ _ _ _ = kf _ _ _ _
    rw [kf_get (by simp; omega), kf_get (by omega), List.getElem_take]
set_option maxRecDepth 100000 in
set_option maxHeartbeats 8000000 in
theorem thpop_any (base g0 f g o cv n : Nat) (c : Array Value) (L : List Tk) (hn : n < 1000000) (w : World) (hg : g0 ≠ g) (hp : HpB w g0 (.cells c 141)) (hf : c[f]? = some (.slice (some ⟨g, o, none⟩) (n + 1) cv)) (h : EQ TN 144 w base (.slice (some ⟨g, o, none⟩) (n + 1) cv) (n + 1) L) (hh : Hp (n + 1) (kT L)) :
    Calls Try.prog 82 #[.iface 142 (.pointer (some ⟨g0, f, none⟩))] w fun e w' => ∃ E L', e = .returned (.iface 144 (.agg (tkC E))) ∧ L.Perm (E :: L') ∧ (∀ x ∈ L, E.key ≤ x.key) ∧ Hp n (kT L') ∧ HpB w' g0 (.cells (c.setIfInBounds f (.slice (some ⟨g, o, none⟩) n cv)) 141) ∧ EQ TN 144 w' base (.slice (some ⟨g, o, none⟩) n cv) n L' ∧ Still [g0, g] w w' := by
  have hl := h.1
  have hc1 : w.cell? ⟨g0, f, none⟩ = some (.slice (some ⟨g, o, none⟩) (n + 1) cv) := by rw [hp_cell hp]; exact hf
  have hLn := Lib.hid (fun (k : Nat) (hk : 0 < k) => tq_len hk hc1)
  have hP := Lib.hid hp
  have hQ := Lib.hid h
  have hH := Lib.hid hh
  clear h hp hh hc1
  replace hf := Lib.hid hf
  go_enter Try.func82, Try.ntmps82
  go_wp2_with (first | (rw [hLn.out]; rotate_left; decide; go_simp) | (go_at_call 175; refine (tqlen_any _ _ _ _).mono ?_; rintro e w1 ⟨rfl, B1⟩; clear hLn; have P1 := Lib.hid (hP.out.bw B1); have Q1 := Lib.hid (hQ.out.bw B1); have hc1 : w1.cell? ⟨g0, f, none⟩ = some (.slice (some ⟨g, o, none⟩) (n + 1) cv) := (by rw [hp_cell P1.out]; exact hf.out); have hSw := Lib.hid (fun (k : Nat) (hk : 0 < k) => tq_swap hk hc1); clear hc1 hP hQ; replace B1 := Lib.hid B1) | (rw [hSw.out]; rotate_left; decide; go_simp))
  have hS := tswap_any base g o cv (n + 1) L 0 n (by omega) (by omega) w1 Q1.out
  rw [show ((0 : Nat) : Int) = 0 from rfl] at hS
  refine hS.mono ?_
  rintro e w2 ⟨rfl, Q2, T2⟩
  have hD0 : HpD n (kT (swapL L 0 n (by omega) (by omega))) 0 0 := (hH.out.less (by omega)).sink (fun k hk h0 => by
    show kf _ _ _ _ = kf _ _ _ _
    rw [swapL_kf]
    simp [swp, show k ≠ 0 by omega, show k ≠ n by omega])
  have P2 := P1.out.st T2 (by simpa using hg)
  have hc2 : w2.cell? ⟨g0, f, none⟩ = some (.slice (some ⟨g, o, none⟩) (n + 1) cv) := by rw [hp_cell P2]; exact hf.out
  have hDn := tdown_any base g0 f g o cv (n + 1) n 0 _ (by omega) (by omega) (by omega) w2 hg hc2 Q2 hD0
  rw [show ((0 : Nat) : Int) = 0 from rfl] at hDn
  replace hDn := Lib.hid hDn
  replace T2 := Lib.hid ((B1.out.still [g]).trans T2)
  replace P2 := Lib.hid P2
  clear hc2 Q2 hD0 hS Q1 P1 B1 hSw
  go_wp2_with (first | (go_at_call 105; refine hDn.out.mono ?_; rintro e w3 ⟨r, rfl, L2, hp2, hd2, hr1, hr2, Q3, T3⟩; clear hDn; have hh2 : Hid (Hp n (kT L2)) := Lib.hid (by cases r with | true => exact hr1 rfl | false => exact (hr2 rfl).zero); have P3 := Lib.hid (P2.out.st T3 (by simpa using hg)); replace T3 := Lib.hid (T2.out.trans T3); replace Q3 := Lib.hid Q3; clear hr1 hr2 P2 T2; replace hp2 := Lib.hid hp2; replace hd2 := Lib.hid hd2))
  have hl2 : L2.length = n + 1 := Q3.out.1
  have hpl := Lib.hid (tpop_plain hl hl2 hH.out hp2.out hd2.out hh2.out)
  refine (tqpop_any base g0 f g o cv n c L2 (by omega) w3 hg P3.out hf.out Q3.out).mono ?_
  rintro e w4 ⟨rfl, P4, Q4, T4⟩
  replace T4 := Lib.hid ((T3.out.weaken (S' := [g0, g]) (fun k hk => by simp at hk; simp [hk])).trans (T4.weaken (fun k hk => by simp at hk; simp [hk])))
  generalize L2[n] = E at *
  generalize L2.take n = L' at *
  generalize hce : tkC E = ce at *
  replace P4 := Lib.hid P4
  replace Q4 := Lib.hid Q4
  replace hce := Lib.hid hce
  clear P3 Q3 T3 hp2 hd2 hh2
  go_wp2_with fail
  go_ret
  exact ⟨E, L', by rw [hce.out]; rfl, hpl.out.1, hpl.out.2.1, hpl.out.2.2, P4.out, Q4.out, T4.out⟩
end Go.Proofs.Ytcempndfbckcaaa
