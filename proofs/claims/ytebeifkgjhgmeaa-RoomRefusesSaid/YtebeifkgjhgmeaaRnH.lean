/- A house as the laws see it: its members H, its own blocks T. No condition. -/
import Derived.Test.YtebeifkgjhgmeaaRnG
namespace Go.Proofs.Ytebeifkgjhgmeaa
open Go.RowKit
structure HS (w : World) (base gh : Nat) (S : List (List Nat)) (H : List Mem) (T : List Nat) : Prop where
 ex : ∃ (vS : Value) (sl : Option Addr) (n c : Nat) (L : List (Mem × Value)), HouseV w base gh vS (.slice sl n c) S L ∧ L.map Prod.fst = H ∧ ((n = 0 ∧ T = []) ∨ ∃ gl o, sl = some ⟨gl, o, none⟩ ∧ T = gl :: hsB L)
 hl : H.length ≤ 6
 hs : S.length = H.length
 h20 : ∀ s ∈ S, s.length ≤ 20
 ok : HouseOk H
 ok2 : Ok2 H
 hb : base ≤ w.heap.size
 ht : ∀ k ∈ T, base ≤ k ∧ k < w.heap.size
theorem HS.bw {w w' : World} {base gh : Nat} {S : List (List Nat)} {H : List Mem} {T : List Nat} (h : HS w base gh S H T) (hb : BW w w') : HS w' base gh S H T := by
 obtain ⟨vS, sl, n, c, L, h1, h2, h3⟩ := h.ex
 exact ⟨⟨vS, sl, n, c, L, h1.bw hb, h2, h3⟩, h.hl, h.hs, h.h20, h.ok, h.ok2, Nat.le_trans h.hb hb.size, fun k hk => ⟨(h.ht k hk).1, Nat.lt_of_lt_of_le (h.ht k hk).2 hb.size⟩⟩
theorem HouseV.own {w : World} {base gh : Nat} {vS : Value} {gl o n c : Nat} {S : List (List Nat)} {L : List (Mem × Value)} (h : HouseV w base gh vS (.slice (some ⟨gl, o, none⟩) n c) S L) : ∀ k ∈ gl :: hsB L, base ≤ k ∧ k < w.heap.size := fun k hk => by
 rcases List.mem_cons.1 hk with rfl | hk
 ·exact ⟨h.mb.ge' k rfl, h.mb.lt' k rfl⟩
 ·obtain ⟨p, hp, hpk⟩ := List.mem_flatMap.1 hk
  have hpk' : p.2.ownBlock = some k := by simpa using hpk
  exact ⟨(h.sb p hp).ge' k hpk', (h.sb p hp).lt' k hpk'⟩
theorem HouseV.len {w : World} {base gh : Nat} {vS : Value} {sl : Option Addr} {n c : Nat} {S : List (List Nat)} {L : List (Mem × Value)} (h : HouseV w base gh vS (.slice sl n c) S L) : n = L.length := by
 obtain ⟨_, _, e, _⟩ := h.mb.len
 cases e; rfl
theorem hs_new (sa : Option Addr) (n cap : Nat) (X : List (List Nat)) (hX : X.length = n) (hnc : n ≤ cap) (hcap : cap ≤ 9223372036854775807) (h20 : ∀ x ∈ X, x.length ≤ 20) (w : World) (hS : SeatsV w sa X) :
  Calls Try.prog 7 #[.slice sa n cap] w fun e w' => ∃ gh T, e = .returned (.pointer (some ⟨gh, 0, none⟩)) ∧ HS w' w.heap.size gh (X.take (min n 6)) (List.replicate (min n 6) mem0) T ∧ BW w w' := by
 refine (new_ok sa n cap (min n 6) X hX rfl hnc hcap (fun x hx => by have := h20 x hx; omega) w hS).mono ?_
 rintro e w' ⟨gh, vS, sl, cl, rfl, hV, hb⟩
 have hlen := hV.len
 rw [List.length_replicate] at hlen
 have hT : ∃ T, ((min n 6 = 0 ∧ T = []) ∨ ∃ gl o, sl = some ⟨gl, o, none⟩ ∧ T = gl :: hsB (List.replicate (min n 6) (mem0, (Value.slice none 0 0)))) ∧ ∀ k ∈ T, w.heap.size ≤ k ∧ k < w'.heap.size := by
  rcases Nat.eq_zero_or_pos (min n 6) with h0 | h0
  ·exact ⟨[], .inl ⟨h0, rfl⟩, fun k hk => by cases hk⟩
  ·have hmb := hV.mb
   rw [List.length_replicate] at hmb
   obtain ⟨g, o, c', e, -⟩ := hmb.form h0
   cases e
   exact ⟨_, .inr ⟨g, o, rfl, rfl⟩, hV.own⟩
 obtain ⟨T, h1, h2⟩ := hT
 refine ⟨gh, T, rfl, ⟨⟨vS, sl, _, cl, _, hV, ?_, h1⟩, ?_, ?_, fun s hs => h20 s (List.mem_of_mem_take hs), HouseOk.new _, Ok2.new _, hb.size, h2⟩, hb⟩
 ·rw [List.map_replicate]
 ·rw [List.length_replicate]; omega
 ·rw [List.length_replicate, List.length_take]; omega
def DEx (kd st rm tr ow ly : Int) (nn nf : Nat) (F : List Nat) (S : List (List Nat)) (H H' : List Mem) (cd : Nat) (v : Int) : Prop :=
 ∀ (s : Nat) (m : Mem) (hs : s < S.length), st = (s : Int) → H[s]? = some m → m.n < nn → 1 ≤ kd → kd < 9 → (kd ≠ 1 → kd ≠ 8 → m.r ≠ -1) → KEx kd rm tr ow ly nf F S[s] (H.set s { m with n := nn }) H' s { m with n := nn } cd v
theorem hs_do (base gh : Nat) (S : List (List Nat)) (H : List Mem) (T : List Nat) (kd st rm tr ow ly : Int) (nn : Nat) (hnn : nn < 18446744073709551616) (sf : Option Addr) (nf cf : Nat) (F : List Nat) (w : World) (hH : HS w base gh S H T) (sq : SQ EU4 w 0 (.slice sf nf cf) nf F) (hF : ∀ x ∈ F, x < 4294967296) (hnf : nf ≤ 40) (hsf : 0 < nf → ∀ g, (Value.slice sf nf cf).ownBlock = some g → g ∉ T) :
  Calls Try.prog 9 #[.pointer (some ⟨gh, 0, none⟩), .agg (frA kd st (nn : Nat) rm tr ow ly sf nf cf)] w fun e w' => ∃ (H' : List Mem) (T' : List Nat) (cd : Nat) (v : Int) (sc : Option Addr) (nc cc : Nat), e = .returned (.tuple #[.slice sc nc cc, .agg (repA nn cd v)]) ∧ DoRel H st nn H' cd v ∧ (cd ≠ 0 → nc = 0) ∧ DEx kd st rm tr ow ly nn nf F S H H' cd v ∧ HS w' base gh S H' T' ∧ Still T w w' := by
 obtain ⟨vS, sl, n, c, L, h1, rfl, h3⟩ := hH.ex
 have hlen := h1.len
 rcases h3 with ⟨rfl, rfl⟩ | ⟨gl, o, rfl, rfl⟩
 ·refine (do_none gh c vS sl kd st rm tr ow ly nn sf nf cf w h1.hp hnn).mono ?_
  rintro e w' ⟨rfl, hb⟩
  have hL : L = [] := List.eq_nil_of_length_eq_zero hlen.symm
  subst hL
  exact ⟨[], [], 9, 0, none, 0, 0, rfl, .none (fun h => by have : (([] : List (Mem × Value)).map Prod.fst).length = 0 := rfl; omega), fun _ => rfl, (fun s m hs e1 e2 => by cases e2), hH.bw hb, hb.still _⟩
 ·refine (do_any base gh gl o n c vS S L kd st rm tr ow ly nn sf nf cf F w ⟨by simpa using hH.hl, by simpa using hH.hs, hH.h20, hH.ok, hH.ok2, hH.hb, h1, sq, hF, hnf, ?_, hnn⟩).mono ?_
  ·exact fun h0 g hg e => hsf h0 g hg (by rw [e]; exact List.mem_cons_self)
  ·rintro e w' ⟨⟨L', cd, v, sc, nc, cc, rfl, k1, k2, k3, k4, k5⟩, k6⟩
   have hl' := k1.len
   exact ⟨L'.map Prod.fst, gl :: hsB L', cd, v, sc, nc, cc, rfl, k1, k2, k4, ⟨⟨vS, _, n, c, L', k5, rfl, .inr ⟨gl, o, rfl, rfl⟩⟩, by rw [hl']; exact hH.hl, by rw [hl']; exact hH.hs, hH.h20, k1.ok hH.ok, k1.ok2 hH.ok2, Nat.le_trans hH.hb k6.size, k5.own⟩, k6⟩
structure MV (w : World) (base : Nat) (m : Mem) (va vb vs : Value) : Prop where
 a : EQ I1 3 w base va m.a.p.length m.a.p
 b : EQ I1 3 w base vb m.b.p.length m.b.p
 s : EQ ESb 50 w base vs m.subs.length m.subs
theorem MV.bw {w w' : World} {base : Nat} {m : Mem} {va vb vs : Value} (h : MV w base m va vb vs) (hb : BW w w') : MV w' base m va vb vs := ⟨h.a.bw hb, h.b.bw hb, h.s.bw hb⟩
def memZ : Mem := ⟨0, trk0, trk0, [], 0⟩
theorem hs_member (base gh : Nat) (S : List (List Nat)) (H : List Mem) (T : List Nat) (k : Int) (w : World) (hH : HS w base gh S H T) :
  Calls Try.prog 10 #[.pointer (some ⟨gh, 0, none⟩), .int .i64 k] w fun e w' => ∃ (m : Mem) (va vb vs : Value) (ok : Bool), e = .returned (.tuple #[.agg (memA m va vb vs), .bool ok]) ∧ MV w' w.heap.size m va vb vs ∧ BW w w' ∧ ((ok = true ∧ ∃ s : Nat, k = (s : Int) ∧ H[s]? = some m) ∨ (ok = false ∧ ¬ (0 ≤ k ∧ k < (H.length : Int)) ∧ m = memZ)) := by
 obtain ⟨vS, sl, n, c, L, h1, rfl, h3⟩ := hH.ex
 have hlen := h1.len
 by_cases hk : 0 ≤ k ∧ k < (n : Int)
 ·obtain ⟨i, rfl⟩ : ∃ i : Nat, k = (i : Int) := ⟨k.toNat, by omega⟩
  have hi : i < L.length := by omega
  rcases h3 with ⟨rfl, -⟩ | ⟨gl, o, rfl, -⟩
  ·omega
  have hok := (hH.ok i _ (get_fst hi)).n
  have hok2 := hH.ok2 L[i].1 (List.mem_of_getElem? (get_fst hi))
  refine (member_ok base gh gl o n c i vS S L hi hok hok2.2 w h1).mono ?_
  rintro e w' ⟨va, vb, vs, rfl, k1, k2, k3, k4⟩
  exact ⟨L[i].1, va, vb, vs, true, rfl, ⟨k1, k2, k3⟩, k4, .inl ⟨rfl, i, rfl, get_fst hi⟩⟩
 ·refine (member_no gh n c vS sl k w h1.hp hk).mono ?_
  rintro e w' ⟨rfl, hb⟩
  exact ⟨memZ, .slice none 0 0, .slice none 0 0, .slice none 0 0, false, rfl, ⟨EQ.nil _ _ _ _, EQ.nil _ _ _ _, EQ.nil _ _ _ _⟩, hb, .inr ⟨rfl, by rw [List.length_map, ← hlen]; exact hk, rfl⟩⟩
end Go.Proofs.Ytebeifkgjhgmeaa
