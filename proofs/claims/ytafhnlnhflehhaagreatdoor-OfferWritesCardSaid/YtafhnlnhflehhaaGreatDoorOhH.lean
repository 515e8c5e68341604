/- The reference's Read (printed by wip/gen/genOhH.py). No condition but the sizes'. -/
import Derived.Test.YtafhnlnhflehhaaGreatDoorOhF
import Derived.Test.YtafhnlnhflehhaaGreatDoorOhD
namespace Go.Proofs.YtafhnlnhflehhaaGreatDoor
open Go.RowKit
theorem swLdG {T : TypeId} {n : Nat} {ops : Array Oper} {rest : List Oper} {o : Oper} {a : Act} {w : World} {Q : Exit → Act → World → Prop} (hT : SwT T n) (hw : Region.wanted o (yielded ops a.tmps) = true) {x : Operand} (ho : o.op = .load T x) {g : Nat} (hx : a.eval x = .pointer (some ⟨g, 0, none⟩)) {c : Array Value} {t : TypeId} (H : HpB w g (.cells c t)) (hl : c.size = n)
  (h : wpList Tryz.prog ops Q rest (a.put o.dst (.agg c)) w) : wpList Tryz.prog ops Q (o :: rest) a w :=
 have ⟨d, h1, h2, _⟩ := hT.hu
 BigFrame.wpList_want hw (fun _ hK => wp_load_row T x ho _ hx _ _ _ _ H h1 (by cases d <;> first | rfl | cases h2) (by rw [hT.hi, hl]) (hK _ _ h))
def RfRes (S : ByteArray) (w' : World) (e : Ending) : Prop :=
 (∃ (d : OffD) (cs : Array Value) (sW : Option Addr) (cW : Nat) (sH : Option Addr) (cH : Nat), MayO d ∧ S.data.toList = offT d ∧ OffV w' cs d sW cW sH cH ∧ e = .returned (.tuple #[.agg cs, .bool true])) ∨
 ((∀ o, MayO o → S.data.toList ≠ offT o) ∧ e = .returned (.tuple #[.agg #[.int .i64 0, .slice none 0 0, .slice none 0 0], .bool false]))
theorem bS_toList (x : BL) : (bS x).toList = x := by rw [ByteArray.toList_eq, bS_list]
theorem key_eq {x k : BL} (h : x = k) : ((bS x).toList == k) = true := by rw [bS_toList, h]; exact beq_self_eq_true _
theorem key_ne {x k : BL} (h : x ≠ k) : ((bS x).toList == k) = false := by rw [bS_toList]; exact beq_eq_false_iff_ne.2 h
theorem RdS.stO {w w' : World} {base g k : Nat} {d : OffD} {sW : Option Addr} {nW cW : Nat} {sH : Option Addr} {nH cH : Nat} (h : RdS w base g d sW nW cW sH nH cH) (T : Still [k] w w') (hk : k < base) (hg : k ≠ g) : RdS w' base g d sW nW cW sH nH cH :=
 ⟨h.hp.st T (by simpa using Ne.symm hg), h.lt, h.qw.old T (by simpa using hk), h.qh.old T (by simpa using hk)⟩
theorem joinC_len (c : UInt8) : ∀ (ps : List BL) (p : BL), p ∈ ps → p.length ≤ (joinC c ps).length
 | [], p, h => by cases h
 | [a], p, h => by obtain rfl := List.mem_singleton.1 h; exact Nat.le_refl _
 | a :: b :: r, p, h => by
  rw [joinC_cons (by simp), List.length_append, List.length_cons]
  rcases List.mem_cons.1 h with rfl | h
  ·omega
  ·have := joinC_len c (b :: r) p h
   omega
theorem cut_len {c : UInt8} {l : BL} {p : BL} (h : p ∈ cutB c l) : p.length ≤ l.length := by
 have := joinC_len c (cutB c l) p h
 rwa [join_cut] at this
theorem part_seatS {o : OffD} {i : Nat} {x : BL} {d : OffD} {v : Int} (hM : MayO o) (h : LineK o i [kOffer, x]) (hd : d = partO o i) (hv : ∀ n : Nat, n ≤ 1048576 → x = Lib.decDigits n → v = n) : { d with seat := v } = partO o (i + 1) := by
 cases h with
 | seat hi e =>
  subst hi
  simp only [List.cons.injEq, and_true, true_and] at e
  have hs := hM.1
  unfold Sm at hs
  have := hv o.seat.toNat (by omega) e
  rw [hd, part_zero, part_one, this]
  congr 1
  omega
 | wish _ _ _ e => simp at e
 | hear _ _ _ e => simp at e
 | last _ e => simp at e
theorem part_trackS {o : OffD} {i : Nat} {x y z : BL} {d : OffD} {a c : Int} {ls : List Nat} (hM : MayO o) (h : LineK o i [kTrack, x, y, z]) (hd : d = partO o i) (ha : ∀ n : Nat, n ≤ 1048576 → x = Lib.decDigits n → a = n) (hc : ∀ c' : Int, 0 ≤ c' ∧ c' < 3 → y = codT c' → c = c') (hs : ∀ l : List Nat, l ≠ [] → (∀ q ∈ l, q ≤ 1048576) → z = srcT l → ls = l) : { d with W := d.W ++ [⟨a, c, ls⟩] } = partO o (i + 1) := by
 cases h with
 | seat _ e => simp at e
 | hear _ _ _ e => simp only [List.cons.injEq] at e; exact absurd e.1 (by decide)
 | last _ e => simp at e
 | wish j hj hi e =>
  subst hi
  simp only [List.cons.injEq, and_true, true_and] at e
  obtain ⟨e1, e2, e3⟩ := e
  have hk := hM.2.1.1 j hj
  have hne := (okW_inj hk).2.2
  obtain ⟨w1, w2, -, -⟩ := hk
  unfold Sm at w1
  have q1 := ha (wi o.W j).t.toNat (by omega) e1
  have q2 := hc _ w2 e2
  have q3 := hs _ hne (fun q hq => by
   obtain ⟨k, hk, rfl⟩ := List.mem_iff_getElem.1 hq
   have := hM.2.1.2.2.2 _ (src_mem hj hk)
   omega) e3
  rw [hd, part_wish o hj]
  congr 2
  have e5 : (⟨a, c, ls⟩ : WishD) = wi o.W j := by
   generalize wi o.W j = q at *
   obtain ⟨qt, qc, qs⟩ := q
   simp only at *
   rw [q2, q3]
   congr 1
   omega
  rw [e5]
theorem part_hearS {o : OffD} {i : Nat} {x y z : BL} {d : OffD} {a b l : Int} (hM : MayO o) (h : LineK o i [kHear, x, y, z]) (hd : d = partO o i) (ha : ∀ n : Nat, n ≤ 1048576 → x = Lib.decDigits n → a = n) (hb : ∀ n : Nat, n ≤ 1048576 → y = Lib.decDigits n → b = n) (hl1 : z = [45] → l = -1) (hl2 : z ≠ [45] → ∀ n : Nat, n ≤ 1048576 → z = Lib.decDigits n → l = n) : { d with H := d.H ++ [⟨a, b, l⟩] } = partO o (i + 1) := by
 cases h with
 | seat _ e => simp at e
 | wish _ _ _ e => simp only [List.cons.injEq] at e; exact absurd e.1.symm (by decide)
 | last _ e => simp at e
 | hear j hj hi e =>
  subst hi
  simp only [List.cons.injEq, and_true, true_and] at e
  obtain ⟨e1, e2, e3⟩ := e
  obtain ⟨w1, w2, w3, -, -⟩ := hM.2.2.1 j hj
  unfold Sm at w1 w2
  have q1 := ha (he o.H j).o.toNat (by omega) e1
  have q2 := hb (he o.H j).t.toNat (by omega) e2
  have q3 : l = (he o.H j).l := by
   by_cases hz : z = [45]
   ·rw [hl1 hz]
    rw [hz] at e3
    exact layT_inj (by omega) (by omega) (show layT (-1) = _ from e3)
   ·have hne : (he o.H j).l ≠ -1 := fun hh => hz (by rw [e3, hh]; rfl)
    have e4 : layT (he o.H j).l = Lib.decDigits (he o.H j).l.toNat := by unfold layT; rw [if_neg hne]; rfl
    have := hl2 hz (he o.H j).l.toNat (by omega) (by rw [e3, e4])
    omega
  rw [hd, part_hear o hj]
  congr 2
  have e5 : (⟨a, b, l⟩ : HearD) = he o.H j := by
   generalize he o.H j = q at *
   obtain ⟨qo, qt, ql⟩ := q
   simp only at *
   rw [q3]
   congr 1 <;> omega
  rw [e5]
end Go.Proofs.YtafhnlnhflehhaaGreatDoor
