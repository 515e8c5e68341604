/- Packets put into order: heap.Pop. No condition but the sizes'. -/
import Derived.Test.YtcempndfbckcaaaReG
namespace Go.Proofs.Ytcempndfbckcaaa
open Go.RowKit

theorem pop_plain {L L2 : List Ent} {n : Nat} (hL : L.length = n + 1) (h2 : L2.length = n + 1) (hh : Hp (n + 1) (kE L)) (hp : (swapL L 0 n (by omega) (by omega)).Perm L2) (hd : L2.drop n = (swapL L 0 n (by omega) (by omega)).drop n) (hh2 : Hp n (kE L2)) :
    L.Perm (L2[n] :: L2.take n) ∧ (∀ x ∈ L, (L2[n]).i ≤ x.i) ∧ Hp n (kE (L2.take n)) := by
  have e1 : L2[n] = L[0] := by
    have h3 : L2[n]? = L[0]? := by
      have := congrArg (fun l => l[0]?) hd
      simp only [List.getElem?_drop, Nat.add_zero] at this
      rw [this]
      unfold swapL
      rw [List.getElem?_set_self (by simp; omega)]
      simp [List.getElem?_eq_getElem (show 0 < L.length by omega)]
    rw [List.getElem?_eq_getElem (by omega), List.getElem?_eq_getElem (by omega)] at h3
    exact Option.some.inj h3
  have e2 : L2 = L2.take n ++ [L2[n]] := by
    rw [List.take_append_getElem (show n < L2.length by omega), List.take_of_length_le (by omega)]
  refine ⟨(swapL_perm (by omega) (by omega)).trans (hp.trans ?_), ?_, hh2.congr (fun k hk => ?_)⟩
  · have h3 : (L2.take n ++ [L2[n]]).Perm (L2[n] :: L2.take n) := List.perm_append_singleton _ _
    rwa [← e2] at h3
  · intro x hx
    obtain ⟨k, hk, rfl⟩ := List.getElem_of_mem hx
    have := hh.least k (by omega)
    unfold kE at this
    rw [kf_get (by omega), kf_get hk] at this
    rw [e1]; exact this
  · show kf _ _ _ _ = kf _ _ _ _
    rw [kf_get (by simp; omega), kf_get (by omega), List.getElem_take]
set_option maxRecDepth 100000 in
set_option maxHeartbeats 8000000 in
theorem hpop_any (base g0 f g o cv n : Nat) (c : Array Value) (L : List Ent) (hn : n < 1000000) (w : World) (hg : g0 ≠ g) (hp : HpB w g0 (.cells c 128)) (hf : c[f]? = some (.slice (some ⟨g, o, none⟩) (n + 1) cv)) (h : EQ EN 131 w base (.slice (some ⟨g, o, none⟩) (n + 1) cv) (n + 1) L) (hh : Hp (n + 1) (kE L)) :
    Calls Try.prog 82 #[.iface 134 (.pointer (some ⟨g0, f, none⟩))] w fun e w' => ∃ E L' s cb, e = .returned (.iface 131 (.agg #[.int .i64 (E : Ent).i, .slice s E.b.length cb, .int .i64 E.c])) ∧ L.Perm (E :: L') ∧ (∀ x ∈ L, E.i ≤ x.i) ∧ Hp n (kE L') ∧ OB w' base 5 (.slice s E.b.length cb) E.b.length E.b ∧ HpB w' g0 (.cells (c.setIfInBounds f (.slice (some ⟨g, o, none⟩) n cv)) 128) ∧ EQ EN 131 w' base (.slice (some ⟨g, o, none⟩) n cv) n L' ∧ Still [g0, g] w w' := by
  have hl := h.1
  have hc1 : w.cell? ⟨g0, f, none⟩ = some (.slice (some ⟨g, o, none⟩) (n + 1) cv) := by rw [hp_cell hp]; exact hf
  have hLn := Lib.hid (fun (k : Nat) (hk : 0 < k) => q_len hk hc1)
  have hP := Lib.hid hp
  have hQ := Lib.hid h
  have hH := Lib.hid hh
  clear h hp hh hc1
  replace hf := Lib.hid hf
  go_enter Try.func82, Try.ntmps82
  go_wp2_with (first | (rw [hLn.out]; rotate_left; decide; go_simp) | (go_at_call 170; refine (qlen_any _ _ _ _).mono ?_; rintro e w1 ⟨rfl, B1⟩; clear hLn; have P1 := Lib.hid (hP.out.bw B1); have Q1 := Lib.hid (hQ.out.bw B1); have hc1 : w1.cell? ⟨g0, f, none⟩ = some (.slice (some ⟨g, o, none⟩) (n + 1) cv) := (by rw [hp_cell P1.out]; exact hf.out); have hSw := Lib.hid (fun (k : Nat) (hk : 0 < k) => q_swap hk hc1); clear hc1 hP hQ; replace B1 := Lib.hid B1) | (rw [hSw.out]; rotate_left; decide; go_simp))
  have hS := swap_any base g o cv (n + 1) L 0 n (by omega) (by omega) w1 Q1.out
  rw [show ((0 : Nat) : Int) = 0 from rfl] at hS
  refine hS.mono ?_
  rintro e w2 ⟨rfl, Q2, T2⟩
  have hD0 : HpD n (kE (swapL L 0 n (by omega) (by omega))) 0 0 := (hH.out.less (by omega)).sink (fun k hk h0 => by
    show kf _ _ _ _ = kf _ _ _ _
    rw [swapL_kf]
    simp [swp, show k ≠ 0 by omega, show k ≠ n by omega])
  have P2 := P1.out.st T2 (by simpa using hg)
  have hc2 : w2.cell? ⟨g0, f, none⟩ = some (.slice (some ⟨g, o, none⟩) (n + 1) cv) := by rw [hp_cell P2]; exact hf.out
  have hDn := down_any base g0 f g o cv (n + 1) n 0 _ (by omega) (by omega) (by omega) w2 hg hc2 Q2 hD0
  rw [show ((0 : Nat) : Int) = 0 from rfl] at hDn
  replace hDn := Lib.hid hDn
  replace T2 := Lib.hid ((B1.out.still [g]).trans T2)
  replace P2 := Lib.hid P2
  clear hc2 Q2 hD0 hS Q1 P1 B1 hSw
  go_wp2_with (first | (go_at_call 105; refine hDn.out.mono ?_; rintro e w3 ⟨r, rfl, L2, hp2, hd2, hr1, hr2, Q3, T3⟩; clear hDn; have hh2 : Hid (Hp n (kE L2)) := Lib.hid (by cases r with | true => exact hr1 rfl | false => exact (hr2 rfl).zero); have P3 := Lib.hid (P2.out.st T3 (by simpa using hg)); replace T3 := Lib.hid (T2.out.trans T3); replace Q3 := Lib.hid Q3; clear hr1 hr2 P2 T2; replace hp2 := Lib.hid hp2; replace hd2 := Lib.hid hd2))
  have hl2 : L2.length = n + 1 := Q3.out.1
  have hpl := Lib.hid (pop_plain hl hl2 hH.out hp2.out hd2.out hh2.out)
  refine (qpop_any base g0 f g o cv n c L2 (by omega) w3 hg P3.out hf.out Q3.out).mono ?_
  rintro e w4 ⟨s, cb, rfl, O4, P4, Q4, T4⟩
  replace T4 := Lib.hid ((T3.out.weaken (S' := [g0, g]) (fun k hk => by simp at hk; simp [hk])).trans (T4.weaken (fun k hk => by simp at hk; simp [hk])))
  generalize L2[n] = E at *
  generalize L2.take n = L' at *
  generalize hbl : E.b.length = bl at *
  replace O4 := Lib.hid O4
  replace P4 := Lib.hid P4
  replace Q4 := Lib.hid Q4
  replace hbl := Lib.hid hbl
  clear P3 Q3 T3 hp2 hd2 hh2
  go_wp2_with fail
  go_ret
  exact ⟨E, L', s, cb, by rw [hbl.out]; rfl, hpl.out.1, hpl.out.2.1, hpl.out.2.2, by rw [hbl.out]; exact O4.out, P4.out, Q4.out, T4.out⟩
end Go.Proofs.Ytcempndfbckcaaa
