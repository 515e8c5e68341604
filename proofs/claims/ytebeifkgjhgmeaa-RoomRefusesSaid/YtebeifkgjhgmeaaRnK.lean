/- The laws' arguments: seats and frames. No condition. -/
import Derived.Test.YtebeifkgjhgmeaaRnJ
namespace Go.Proofs.Ytebeifkgjhgmeaa
open Go.RowKit
theorem Rd.one {w : World} : ∀ {ty : Ty} {cs : List Value}, Rd w ty cs → ∀ u ∈ cs, u.oneCell' = true
 | .label k, _, ⟨n, e, _⟩, u, hu => by subst e; obtain rfl := List.mem_singleton.1 hu; rfl
 | .ret, _, ⟨b, e⟩, u, hu => by subst e; obtain rfl := List.mem_singleton.1 hu; rfl
 | .goto _, _, ⟨s, e, _⟩, u, hu => by subst e; obtain rfl := List.mem_singleton.1 hu; rfl
 | .loop e, _, .inl h, u, hu => by subst h; obtain rfl := List.mem_singleton.1 hu; rfl
 | .loop e, _, .inr ⟨a, len, cap, h, _⟩, u, hu => by subst h; obtain rfl := List.mem_singleton.1 hu; rfl
 | .scope f, _, h, u, hu => Rd.one (ty := f) h u hu
 | .seq a r, _, ⟨c1, c2, e, h1, h2⟩, u, hu => by
  subst e
  rcases List.mem_append.1 hu with hu | hu
  ·exact Rd.one h1 u hu
  ·exact Rd.one h2 u hu
 | .skip, _, h, u, hu => by
  have h' : _ = [] := h
  subst h'
  cases hu
 | .block n e, cs, ⟨hl, hi⟩, u, hu => by
  obtain ⟨j, hj, rfl⟩ := List.mem_iff_getElem.1 hu
  rw [hl] at hj
  have hp : 0 < tsize e := by
   rcases Nat.eq_zero_or_pos (tsize e) with h0 | h0
   ·rw [h0] at hj; omega
   ·exact h0
  have hd : j / tsize e < n := Nat.div_lt_of_lt_mul (by rw [Nat.mul_comm]; exact hj)
  refine Rd.one (hi _ hd) _ ?_
  refine List.mem_iff_getElem?.2 ⟨j % tsize e, ?_⟩
  rw [List.getElem?_take, if_pos (Nat.mod_lt _ hp), List.getElem?_drop]
  have : j / tsize e * tsize e + j % tsize e = j := by rw [Nat.mul_comm]; exact Nat.div_add_mod j (tsize e)
  rw [this]
  exact List.getElem?_eq_getElem _
 | .region _ _ _, _, h, _, _ => h.elim
 | .cond _ _ _, _, h, _, _ => h.elim
 | .rangeFunc _ _ _ _, _, h, _, _ => h.elim
 | .exit _, _, h, _, _ => h.elim
 | .refuse _, _, h, _, _ => h.elim
theorem u4R {w : World} {base : Nat} {cs : List Value} (h : Rd w (.label 6) cs) : ∃ a : Nat, a < 4294967296 ∧ EU4.R w base a cs := by
 obtain ⟨n, rfl, hw⟩ := h
 have hb := bounds_u32 hw
 exact ⟨n.toNat, by omega, show _ = u32V n.toNat by unfold u32V; rw [show ((n.toNat : Nat) : Int) = n by omega]; rfl⟩
theorem slc_of_Rd {w : World} {e : Ty} {cs : List Value} (h : Rd w (.loop e) cs) : ∃ sa n c, cs = [.slice sa n c] := by
 rcases h with rfl | ⟨a, n, c, rfl, _⟩
 ·exact ⟨none, 0, 0, rfl⟩
 ·exact ⟨some a, n, c, rfl⟩
abbrev seatTy : Ty := .scope (.seq (.scope (.seq (.block 16 (.label 4)) (.seq (.block 14 (.label 4)) .skip))) (.seq (.loop (.label 4)) (.seq (.loop (.label 6)) (.seq (.label 7) (.seq (.label 7) .skip)))))
theorem seat_of_Rd {w : World} {cs : List Value} (h : Rd w seatTy cs) : cs.length = 34 ∧ (∀ u ∈ cs, u.oneCell' = true) ∧ ∃ (s : Option Addr) (n c : Nat) (X : List Nat), cs[31]? = some (.slice s n c) ∧ SQ EU4 w 0 (.slice s n c) n X := by
 refine ⟨h.length, h.one, ?_⟩
 obtain ⟨c1, r1, rfl, h1, c2, r2, rfl, h2, c3, r3, rfl, h3, c4, r4, rfl, h4, h5⟩ := h
 obtain ⟨s, n, c, rfl⟩ := slc_of_Rd h3
 have l1 := h1.length
 have l2 := h2.length
 obtain ⟨X, hX, -⟩ := SQ_of_Rd (E := EU4) (fun a => a < 4294967296) _ 0 h3 rfl (fun cs h => u4R h)
 refine ⟨s, n, c, X, ?_, hX⟩
 have l1' : c1.length = 30 := l1
 have l2' : c2.length = 1 := l2
 rw [List.getElem?_append_right (by omega), l1', List.getElem?_append_right (by omega), l2']
 rfl
theorem seats_of_Rd {w : World} {sa : Option Addr} {n cap : Nat} (h : Rd w (.loop seatTy) [.slice sa n cap]) : ∃ X : List (List Nat), X.length = n ∧ SeatsV w sa X ∧ n ≤ cap ∧ cap ≤ maxLen := by
 obtain ⟨h1, h2, h3⟩ := Rd.slice_at h (by decide)
 rcases h3 with ⟨_, h0, _⟩ | ⟨_, h0, _⟩ | ⟨b, o, rfl, hb, hc, hi⟩
 ·exact ⟨[], h0.symm, ⟨fun i hi => absurd hi (Nat.not_lt_zero i)⟩, h1, h2⟩
 ·exact ⟨[], h0.symm, ⟨fun i hi => absurd hi (Nat.not_lt_zero i)⟩, h1, h2⟩
 ·obtain ⟨X, hX, hx⟩ := list_of (fun (X : List Nat) (i : Nat) => ∃ s c, ∃ cs : Array Value, cs.size = 34 ∧ cs.all (·.oneCell') = true ∧ w.rangeAt b (o + i * 34) cs.toList ∧ cs[31]? = some (.slice s X.length c) ∧ SQ EU4 w 0 (.slice s X.length c) X.length X) n id (fun i hin => by
   obtain ⟨cs, k1, k2, k3⟩ := hi i (by omega)
   obtain ⟨l1, l2, s, m, c, X, l3, l4⟩ := seat_of_Rd k2
   have e := l4.1
   refine ⟨X, s, c, cs.toArray, by simpa using l1, ?_, fun j v hj => ?_, ?_, ?_⟩
   ·rw [List.all_toArray, List.all_eq_true]
    exact l2
   ·have hj2 : j < 34 := by
     have := (List.getElem?_eq_some_iff.1 hj).1
     simpa [l1] using this
    have := k3 j (by show j < tsize seatTy; exact hj2)
    rw [show tsize seatTy = 34 from rfl] at this
    rw [show id i = i from rfl]
    rw [this]
    simpa using hj
   ·rw [List.getElem?_toArray, l3, e]
   ·rw [e]; exact l4)
  exact ⟨X, hX, ⟨fun i hi => by
   obtain ⟨s, c, cs, q⟩ := hx i hi
   exact ⟨b, o, s, c, cs, rfl, q⟩⟩, h1, h2⟩
abbrev frTy : Ty := .scope (.seq (.label 3) (.seq (.label 3) (.seq (.label 7) (.seq (.label 3) (.seq (.label 3) (.seq (.label 3) (.seq (.label 3) (.seq (.loop (.label 6)) .skip))))))))
structure FrD where
 kd : Int
 st : Int
 nn : Nat
 rm : Int
 tr : Int
 ow : Int
 ly : Int
 sf : Option Addr
 nf : Nat
 cf : Nat
 F : List Nat
def FrD.A (f : FrD) : Array Value := frA f.kd f.st (f.nn : Nat) f.rm f.tr f.ow f.ly f.sf f.nf f.cf
structure FrD.Ok (f : FrD) (w : World) : Prop where
 nn : f.nn < 18446744073709551616
 sq : SQ EU4 w 0 (.slice f.sf f.nf f.cf) f.nf f.F
 F : ∀ x ∈ f.F, x < 4294967296
theorem FrD.Ok.bw {f : FrD} {w w' : World} (h : f.Ok w) (hb : BW w w') : f.Ok w' := ⟨h.nn, h.sq.bw hb, h.F⟩
theorem fr_of_Rd {w : World} {cs : List Value} (h : Rd w frTy cs) : ∃ f : FrD, cs = f.A.toList ∧ f.Ok w := by
 obtain ⟨c1, r1, rfl, ⟨n1, rfl, -⟩, c2, r2, rfl, ⟨n2, rfl, -⟩, c3, r3, rfl, ⟨n3, rfl, w3⟩, c4, r4, rfl, ⟨n4, rfl, -⟩, c5, r5, rfl, ⟨n5, rfl, -⟩, c6, r6, rfl, ⟨n6, rfl, -⟩, c7, r7, rfl, ⟨n7, rfl, -⟩, c8, r8, rfl, h8, h9⟩ := h
 have h9' : r8 = [] := h9
 subst h9'
 obtain ⟨s, n, c, rfl⟩ := slc_of_Rd h8
 obtain ⟨X, hX, hX2⟩ := SQ_of_Rd (E := EU4) (fun a => a < 4294967296) _ 0 h8 rfl (fun cs h => u4R h)
 have hb := bounds_u64 w3
 refine ⟨⟨n1, n2, n3.toNat, n4, n5, n6, n7, s, n, c, X⟩, ?_, by show n3.toNat < _; omega, hX, hX2⟩
 unfold FrD.A frA
 rw [show ((n3.toNat : Nat) : Int) = n3 by omega]
 rfl
def FrsV (w : World) (sa : Option Addr) (n : Nat) : Prop := ∀ i, i < n → ∃ (b o : Nat) (f : FrD), sa = some ⟨b, o, none⟩ ∧ w.rangeAt b (o + i * 8) f.A.toList ∧ f.Ok w ∧ (0 < f.nf → ∀ g, (Value.slice f.sf f.nf f.cf).ownBlock = some g → g < w.heap.size)
theorem FrsV.bw {w w' : World} {sa : Option Addr} {n : Nat} (h : FrsV w sa n) (hb : BW w w') : FrsV w' sa n := fun i hi => by
 obtain ⟨b, o, f, h1, h2, h3, h4⟩ := h i hi
 exact ⟨b, o, f, h1, rangeAt_bw h2 hb, h3.bw hb, fun h0 g hg => Nat.lt_of_lt_of_le (h4 h0 g hg) hb.size⟩
theorem frs_of_Rd {w : World} {sa : Option Addr} {n cap : Nat} (h : Rd w (.loop frTy) [.slice sa n cap]) : FrsV w sa n ∧ n ≤ cap ∧ cap ≤ maxLen := by
 obtain ⟨h1, h2, h3⟩ := Rd.slice_at h (by decide)
 refine ⟨fun i hin => ?_, h1, h2⟩
 rcases h3 with ⟨_, h0, _⟩ | ⟨_, h0, _⟩ | ⟨b, o, rfl, hb, hc, hi⟩
 ·omega
 ·omega
 ·obtain ⟨cs, k1, k2, k3⟩ := hi i (by omega)
  obtain ⟨f, rfl, hf⟩ := fr_of_Rd k2
  refine ⟨b, o, f, rfl, fun j v hj => ?_, hf, fun h0 => hf.sq.own h0⟩
  have hj2 : j < 8 := (List.getElem?_eq_some_iff.1 hj).1
  have := k3 j (by show j < tsize frTy; exact hj2)
  rw [show tsize frTy = 8 from rfl] at this
  rw [this]
  exact hj
end Go.Proofs.Ytebeifkgjhgmeaa
