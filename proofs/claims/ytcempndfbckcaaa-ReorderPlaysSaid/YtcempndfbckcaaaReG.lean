/- Packets put into order: heap.Push. No condition but the sizes'. -/
import Derived.Test.YtcempndfbckcaaaReF
namespace Go.Proofs.Ytcempndfbckcaaa
open Go.RowKit

theorem Still.transF {S S2 : List Nat} {w w1 w2 : World} (h1 : Still S w w1) (h2 : Still S2 w1 w2) (h : ∀ k ∈ S2, k ∈ S ∨ w.heap.size ≤ k) : Still S w w2 :=
  ⟨h2.os.trans h1.os, h2.tape.trans h1.tape, h2.output.trans h1.output, Nat.le_trans h1.size h2.size, fun k hk hs => (h2.block k (Nat.lt_of_lt_of_le hk h1.size) (fun hm => by
    rcases h k hm with h3 | h3
    · exact hs h3
    · omega)).trans (h1.block k hk hs)⟩
theorem kE_app {L : List Ent} {E : Ent} : ∀ k, k < L.length → kE (L ++ [E]) k = kE L k := fun k hk => by
  show kf _ _ _ _ = kf _ _ _ _
  rw [kf_get (by simp; omega), kf_get hk, List.getElem_append_left hk]
set_option maxRecDepth 100000 in
set_option maxHeartbeats 8000000 in
theorem qlen_any (sa : Option Addr) (n cv : Nat) (w : World) :
    Calls Try.prog 170 #[.slice sa n cv] w fun e w' => e = .returned (.int .i64 (n : Nat)) ∧ BW w w' := by
  go_enter Try.func170, Try.ntmps170
  go_wp2_with fail
  go_ret
  exact ⟨rfl, BW.refl w⟩
set_option maxRecDepth 100000 in
set_option maxHeartbeats 8000000 in
theorem hpush_any (base g0 f cv n : Nat) (sa : Option Addr) (c : Array Value) (L : List Ent) (E : Ent) (s : Option Addr) (cb : Nat) (hn : n < 1000000) (w : World) (hb0 : base ≤ w.heap.size) (hg : (Value.slice sa n cv).ownBlock ≠ some g0) (hp : HpB w g0 (.cells c 128)) (hf : c[f]? = some (.slice sa n cv)) (h : EQ EN 131 w base (.slice sa n cv) n L) (ho : OB w base 5 (.slice s E.b.length cb) E.b.length E.b) (hh : Hp n (kE L)) :
    Calls Try.prog 75 #[.iface 134 (.pointer (some ⟨g0, f, none⟩)), .iface 131 (.agg #[.int .i64 E.i, .slice s E.b.length cb, .int .i64 E.c])] w fun e w' => e = .returned (.tuple #[]) ∧ ∃ sb cc L', cc ≤ maxLen ∧ (L ++ [E]).Perm L' ∧ Hp (n + 1) (kE L') ∧ HpB w' g0 (.cells (c.setIfInBounds f (.slice sb (n + 1) cc)) 128) ∧ EQ EN 131 w' base (.slice sb (n + 1) cc) (n + 1) L' ∧ Still (g0 :: (Value.slice sa n cv).ownBlock.toList) w w' ∧ (∀ j, (Value.slice sb (n + 1) cc).ownBlock = some j → (Value.slice sa n cv).ownBlock = some j ∨ w.heap.size ≤ j) := by
  obtain ⟨_, _, he, hnc, hcm⟩ := h.len
  cases he
  unfold maxLen at hcm
  have hl := h.1
  have hfl : f < c.size := (Array.getElem?_eq_some_iff.1 hf).1
  have hC := Lib.hid (qpush_any base g0 f cv n sa c L E s cb (by omega) w hb0 hg hp hf h ho)
  have hr := Lib.hid (hh.rise (f' := kE (L ++ [E])) (fun k hk => kE_app k (by omega)))
  have hw0 := Lib.hid hp.lt
  have hgg := Lib.hid hg
  clear h ho hh hp hf hb0 hg
  generalize E.b.length = bl at *
  go_enter Try.func75, Try.ntmps75
  go_wp2_with (first | (go_at_call 174; refine hC.out.mono ?_; rintro e w1 ⟨rfl, sb, cc, hm1, P1, Q1, T1, G1⟩; clear hC; have hc1 : w1.cell? ⟨g0, f, none⟩ = some (.slice sb (n + 1) cc) := (by rw [hp_cell P1]; simp [hfl]); have hLn := Lib.hid (fun (k : Nat) (hk : 0 < k) => q_len hk hc1); replace P1 := Lib.hid P1; replace Q1 := Lib.hid Q1; replace T1 := Lib.hid T1; replace G1 := Lib.hid G1; clear hc1) | (rw [hLn.out]; rotate_left; decide; go_simp) | (go_at_call 170; refine (qlen_any _ _ _ _).mono ?_; rintro e w2 ⟨rfl, B2⟩; replace B2 := Lib.hid B2))
  have P2 := P1.out.bw B2.out
  have Q2 := Q1.out.bw B2.out
  obtain ⟨g', o', rfl, hgb, -⟩ := en_form Q2 (by omega)
  have hG' := G1.out g' (by simp [Value.ownBlock])
  have hne : g0 ≠ g' := by
    rintro rfl
    rcases hG' with h1 | h1
    · exact hgg.out h1
    · have := hw0.out; omega
  have hc2 : w2.cell? ⟨g0, f, none⟩ = some (.slice (some ⟨g', o', none⟩) (n + 1) cc) := by rw [hp_cell P2]; simp [hfl]
  refine (up_any base g0 f g' o' cc (n + 1) n (L ++ [E]) (by omega) (by omega) w2 hne hc2 Q2 hr.out).mono ?_
  rintro e w3 ⟨rfl, L', hp3, hh3, Q3, T3⟩
  have P3 := Lib.hid (P2.st T3 (by simpa using hne))
  have T4 := Lib.hid ((T1.out.trans (B2.out.still (g0 :: (Value.slice sa n cv).ownBlock.toList))).transF T3 (fun k hk => by
    obtain rfl : k = g' := by simpa using hk
    exact hG'.imp_left (fun h => by simp [h])))
  replace hp3 := Lib.hid hp3
  replace hh3 := Lib.hid hh3
  replace Q3 := Lib.hid Q3
  replace T3 := Lib.hid T3
  replace hne := Lib.hid hne
  replace hgg := Lib.hid hgg
  clear P2 Q2 hc2 T3 T1 B2 Q1 P1 hLn
  go_wp2_with fail
  go_end0
  exact ⟨rfl, _, cc, L', hm1, hp3.out, hh3.out, P3.out, Q3.out, T4.out, G1.out⟩
end Go.Proofs.Ytcempndfbckcaaa
