/- What the law EgressSame needs of plain data: bounds of a writer, keys, a payload with its number turned and turned back. No condition but the sizes'. -/
import Derived.Test.YtojedpahaifjgaaEsG
namespace Go.Proofs.Ytojedpahaifjgaa
open Go.RowKit
def Wr.OkK (W : Wr) (k : Nat) : Prop := (W.fol = true → 0 ≤ W.a0) ∧ (0 ≤ W.b0 ∧ W.b0 ≤ (k : Int) * 2199023255552) ∧ (0 ≤ W.l0 ∧ W.l0 ≤ (k : Int) * 2199023255552) ∧ (W.out = false → W.l0 = 0)
theorem okK_zero : Hid (Wr.zero.OkK 0) := Lib.hid ⟨(fun h => by cases h), by decide, by decide, fun _ => rfl⟩
theorem okK_up {W : Wr} {k : Nat} (h : W.OkK k) : W.OkK (k + 1) := by
 obtain ⟨h1, h2, h3, h4⟩ := h
 exact ⟨h1, ⟨h2.1, by omega⟩, ⟨h3.1, by omega⟩, h4⟩
theorem okK_ok {W : Wr} {k : Nat} (h : W.OkK k) (hk : k ≤ 40) : W.Ok 0 := by
 obtain ⟨h1, h2, h3, h4⟩ := h
 exact ⟨h1, ⟨h2.1, by omega⟩, ⟨h3.1, by omega⟩, h4, by decide⟩
theorem okK_map {W : Wr} {k : Nat} (h1 : W.fol = true → 0 ≤ W.a0) (h2 : 0 ≤ W.b0 ∧ W.b0 ≤ (k : Int) * 2199023255552 + 1) (h3 : 0 ≤ W.l0 ∧ W.l0 ≤ (k : Int) * 2199023255552) (h4 : W.out = false → W.l0 = 0) (i s p : Int) (hi : i ≤ 1099511627776) : (W.map i s p).2.OkK (k + 1) := by
 unfold Wr.map mapN Wr.OkK
 split
 ·exact ⟨h1, ⟨h2.1, by push_cast; omega⟩, ⟨h3.1, by push_cast; omega⟩, h4⟩
 ·rename_i hn
  have hf : W.fol = true := by cases hq : W.fol with
   | true => rfl
   | false => exact absurd (.inl hq) hn
  have ha := h1 hf
  have hi0 : ¬ i < 0 := fun e => hn (.inr (.inl e))
  have hia : ¬ i < W.a0 := fun e => hn (.inr (.inr e))
  split
  ·exact ⟨h1, ⟨h2.1, by push_cast; omega⟩, ⟨by show 0 ≤ W.b0 + i - W.a0; omega, by show W.b0 + i - W.a0 ≤ _; push_cast; omega⟩, fun e => by cases e⟩
  ·exact ⟨h1, ⟨h2.1, by push_cast; omega⟩, ⟨h3.1, by push_cast; omega⟩, h4⟩
theorem okK_push {W : Wr} {k : Nat} (h : W.OkK k) {many wanted goes ly : Int} {key : Bool} {i s p : Int} (hi : i ≤ 1099511627776) {r : Option (Int × Int × Int)} {tu : Bool} {gl : Int} {WN : Wr} (hN : pushN many wanted goes ly key 0 W i s p = (r, tu, gl, WN)) : WN.OkK (k + 1) := by
 obtain ⟨h1, h2, h3, h4⟩ := h
 unfold pushN at hN
 split at hN
 ·simp only [Prod.mk.injEq] at hN
  obtain ⟨-, -, -, rfl⟩ := hN
  exact okK_up ⟨h1, h2, h3, h4⟩
 ·simp only [Prod.mk.injEq] at hN
  obtain ⟨-, -, -, rfl⟩ := hN
  split
  ·unfold Wr.follow
   split
   ·refine okK_map ?_ ?_ ?_ ?_ i s p hi
    ·exact fun _ => ‹_›
    rotate_left
    ·exact h3
    ·exact h4
    show 0 ≤ (if W.out = true then W.l0 + 1 else (0 : Int)) ∧ (if W.out = true then W.l0 + 1 else (0 : Int)) ≤ _
    split <;> omega
   ·exact okK_map h1 ⟨h2.1, by omega⟩ h3 h4 i s p hi
  ·exact okK_map h1 ⟨h2.1, by omega⟩ h3 h4 i s p hi
theorem push_key {W : Wr} {many wanted goes ly first : Int} {key : Bool} {i s p : Int} {r : Option (Int × Int × Int)} {tu : Bool} {gl : Int} {WN : Wr} (hN : pushN many wanted goes ly key first W i s p = (r, tu, gl, WN)) :
  (gl ≠ goes → key = true) ∧ (r.isSome = true → gl = ly ∧ (tu = true → key = true) ∧ (tu = false → ly = goes)) := by
 have hT : ∀ t, takeN many wanted goes ly key = t → (t.2.2 ≠ goes → key = true) ∧ (t.1 = true → t.2.2 = ly ∧ (t.2.1 = true → key = true) ∧ (t.2.1 = false → ly = goes)) := by
  intro t h
  unfold takeN at h
  split at h
  ·subst h; exact ⟨fun e => absurd rfl e, fun e => by cases e⟩
  ·split at h
   ·rename_i e
    subst h
    exact ⟨fun e2 => absurd e e2, fun _ => ⟨rfl, (fun e2 => by cases e2), fun _ => e⟩⟩
   ·split at h
    ·rename_i e
     subst h
     exact ⟨fun _ => e.2, fun _ => ⟨rfl, fun _ => e.2, fun e2 => by cases e2⟩⟩
    ·subst h; exact ⟨fun e => absurd rfl e, fun e => by cases e⟩
 obtain ⟨k1, k2⟩ := hT _ rfl
 unfold pushN at hN
 split at hN
 ·simp only [Prod.mk.injEq] at hN
  obtain ⟨rfl, rfl, rfl, rfl⟩ := hN
  exact ⟨k1, fun e => by cases e⟩
 ·rename_i hne
  simp only [Prod.mk.injEq] at hN
  obtain ⟨-, rfl, rfl, rfl⟩ := hN
  exact ⟨k1, fun _ => k2 (by simpa using hne)⟩
theorem goes_w (gc : Nat) (many wanted goes : Int) (w : World) (h : HpB w gc (.cells (chC many wanted goes) 112)) :
  Calls Try.prog 10 #[.pointer (some ⟨gc, 0, none⟩)] w fun e w' => e = .returned (.int .i64 goes) ∧ w = w' :=
 (goes_any gc many wanted goes w h).mono fun _ _ ⟨h1, h2⟩ => ⟨h1, h2.symm⟩
theorem strOf_ne_self' (s : ByteArray) : (s.toList != s.toList) = false := by simp
theorem OwnB.stN {w w' : World} {base B : Nat} {v : Value} {l : List Int} {S : List Nat} (h : OwnB w base v l) (hs : Still S w w') (hS : ∀ k ∈ S, k < B ∨ ∃ cs t f, w.heap[k]? = some (.cells cs t f) ∧ t ≠ 5) (hB : B ≤ base := by exact Nat.le_refl _) : OwnB w' base v l := by
 obtain ⟨h1, h2 | ⟨g, cap, cur, rfl, hb, hh, r⟩⟩ := h
 ·exact ⟨h1, .inl h2⟩
 ·refine ⟨h1, .inr ⟨g, cap, cur, rfl, hb, ?_, r⟩⟩
  rw [hs.block g (Array.getElem?_eq_some_iff.1 hh).1 (fun hm => ?_)]
  ·exact hh
  ·rcases hS g hm with k | ⟨cs, t, f, k1, k2⟩
   ·omega
   ·rw [hh] at k1
    cases k1
    exact k2 rfl
def PayAt (w0 w : World) (sa : Option Addr) (n cp : Nat) (l : List Int) : Prop :=
 SlB w sa n cp l ∧ ∀ b o, sa = some ⟨b, o, none⟩ → 0 < n → b < w0.heap.size ∨ ∃ cs f, w.heap[b]? = some (.cells cs 5 f)
theorem PayAt.bw {w0 w w' : World} {sa : Option Addr} {n cp : Nat} {l : List Int} (h : PayAt w0 w sa n cp l) (hb : BW w w') : PayAt w0 w' sa n cp l :=
 ⟨h.1.below hb, fun b o e h0 => (h.2 b o e h0).imp id fun ⟨cs, f, k⟩ => ⟨cs, f, hb.heap k⟩⟩
theorem PayAt.stN {w0 w w' : World} {sa : Option Addr} {n cp : Nat} {l : List Int} {S : List Nat} (h : PayAt w0 w sa n cp l) (hs : Still S w w') (hS : ∀ k ∈ S, w0.heap.size ≤ k ∧ ∃ cs t f, w.heap[k]? = some (.cells cs t f) ∧ t ≠ 5) : PayAt w0 w' sa n cp l := by
 obtain ⟨⟨h1, h2, h3, h4, h5⟩, hT⟩ := h
 have hn : ∀ b o, sa = some ⟨b, o, none⟩ → 0 < n → b ∉ S := fun b o e h0 hm => by
  obtain ⟨k0, cs', t, f', k1, k2⟩ := hS b hm
  rcases hT b o e h0 with k | ⟨cs, f, k⟩
  ·omega
  ·rw [k] at k1
   cases k1
   exact k2 rfl
 refine ⟨⟨h1, h2, h3, h4, ?_⟩, fun b o e h0 => ?_⟩
 ·rcases h5 with h5 | ⟨b, o, hsa, hlt, hc⟩
  ·exact .inl h5
  ·exact .inr ⟨b, o, hsa, Nat.lt_of_lt_of_le hlt hs.size, fun i hi => hs.cellN (hc i hi) (hn b o hsa (by omega))⟩
 ·rcases hT b o e h0 with k | ⟨cs, f, k⟩
  ·exact .inl k
  ·exact .inr ⟨cs, f, by rw [hs.block b (Array.getElem?_eq_some_iff.1 k).1 (hn b o e h0)]; exact k⟩
theorem pic_ok {many wanted goes ly first : Int} {key : Bool} {W : Wr} {i s p : Int} {r : Option (Int × Int × Int)} {tu : Bool} {gl : Int} {WN : Wr} (hN : pushN many wanted goes ly key first W i s p = (r, tu, gl, WN)) {y n1 n2 : Int} (hr : r = some (y, n1, n2)) : 0 ≤ n2 := by
 subst hr
 unfold pushN at hN
 split at hN
 ·simp only [Prod.mk.injEq] at hN
  cases hN.1
 ·simp only [Prod.mk.injEq] at hN
  exact (map_pic rfl hN.1).1
def PayL (c : Nat) (lp : List Nat) (sp : Option Addr) (np cp : Nat) (n2 : Int) (sv : Option Addr) (nv cv : Nat) (L' : List Int) : Prop :=
 (hasC c lp = false ∧ L' = lI lp ∧ Value.slice sv nv cv = .slice sp np cp) ∨ (hasC c lp = true ∧ 0 ≤ n2 ∧ L' = turnN (lI lp) n2 (vWide (lI lp)))
theorem pay_form {c : Nat} {lp : List Nat} {sp : Option Addr} {np cp base : Nat} {n2 : Int} {w w6 : World} {v : Value} {has : Bool} (hby : ByL lp) (SP : SB w (.slice sp np cp) np lp) (B : BW w w6) (hh : hasC c lp = has) (hn2 : 0 ≤ n2) (hv0 : has = false → v = .slice sp np cp) (hv1 : has = true → TVq base (lI lp) (vWide (lI lp)) n2 w6 v) :
  ∃ sv nv cv L', PayAt w w6 sv nv cv L' ∧ v = .slice sv nv cv ∧ PayL c lp sp np cp n2 sv nv cv L' := by
 cases has with
 | false =>
  refine ⟨sp, np, cp, lI lp, ⟨(SlB_of_SB SP).below B, fun b o e h0 => ?_⟩, hv0 rfl, .inl ⟨hh, rfl, rfl⟩⟩
  obtain ⟨b', o', c', hs, -, -, hlt, -⟩ := SP.form h0
  cases hs
  cases e
  exact .inl hlt
 | true =>
  have hO : OwnB w6 base v (turnN (lI lp) n2 (vWide (lI lp))) := hv1 rfl
  obtain ⟨sv, cv, rfl, hs⟩ := hO.slB (turnN_mem (lI_by hby) n2 _)
  refine ⟨sv, _, cv, _, ⟨hs, fun b o e h0 => ?_⟩, rfl, .inr ⟨hh, hn2, rfl⟩⟩
  obtain ⟨-, ⟨h2, h3⟩ | ⟨g, cap, cur, hv, hb, hh, r⟩⟩ := hO
  ·omega
  ·subst e
   cases hv
   exact .inr ⟨cur, _, hh⟩
theorem rout_form {w0 w : World} {sa : Option Addr} {n cp : Nat} (L : List Int) (h : PayAt w0 w sa n cp L) : ∃ (f0 : Bool) (f1 : Int) (f2 f3 : Bool) (f4 : Int) (f5 : Bool) (f6 f7 f8 : Int), rOut L = (#[.bool f0, .int .u8 f1, .bool f2, .bool f3, .int .u16 f4, .bool f5, .int .i64 f6], f7, f8) := by
 obtain ⟨b0, n1, b2, b3, n4, b5, n6, pl, er, e⟩ := payT L
 rw [vp_eq _ (getD_range h.1.2.2.2.1)] at e
 exact ⟨_, _, _, _, _, _, _, _, _, e⟩
theorem noHas {c : Nat} {lp : List Nat} (hby : ByL lp) (hh : hasC c lp = false) {L' : List Int} {f0 : Bool} {f1 : Int} {f2 f3 : Bool} {f4 : Int} {f5 : Bool} {f6 f7 f8 : Int} (hF : rOut L' = (#[.bool f0, .int .u8 f1, .bool f2, .bool f3, .int .u16 f4, .bool f5, .int .i64 f6], f7, f8)) (hL : L' = lI lp) (hc : c = 1) : f2 = false := by
 subst hc hL
 have h1 : vHas (lI lp) = false := hh
 have h2 : vHas (lI lp) = f2 := by
  unfold vHas
  rw [vp_eq _ (getD_range (lI_by hby)), hF]
  rfl
 rw [← h2]; exact h1
theorem turned_form {lp : List Nat} (hby : ByL lp) {b0 : Bool} {n1 n6 : Int} (ho : vpOut (lI lp) = (#[.bool b0, .int .u8 n1, .bool true, .bool (vWide (lI lp)), .int .u16 (vPic (lI lp)), .bool (vKey (lI lp)), .int .i64 n6], 2, 0)) {n2 : Int} (hn2 : 0 ≤ n2) {L' : List Int} (hL : L' = turnN (lI lp) n2 (vWide (lI lp))) {f0 : Bool} {f1 : Int} {f2 f3 : Bool} {f4 : Int} {f5 : Bool} {f6 f7 f8 : Int} (hF : rOut L' = (#[.bool f0, .int .u8 f1, .bool f2, .bool f3, .int .u16 f4, .bool f5, .int .i64 f6], f7, f8)) :
  f2 = true ∧ f8 = 0 ∧ rOut (lI lp) = (#[.bool b0, .int .u8 n1, .bool true, .bool (vWide (lI lp)), .int .u16 (vPic (lI lp)), .bool (vKey (lI lp)), .int .i64 n6], 2, 0) ∧ f3 = vWide (lI lp) ∧ f7 = 2 := by
 have hr := lI_by hby
 rw [vp_eq _ (getD_range hr)] at ho
 obtain ⟨-, -, -, h⟩ := turn_law (lI lp) hr n2 hn2 b0 n1 _ _ _ n6 2 ho
 subst hL
 rw [hF] at h
 simp only [Prod.mk.injEq, Array.mk.injEq, List.cons.injEq, Value.bool.injEq, Value.int.injEq, and_true, true_and] at h
 obtain ⟨⟨-, -, e2, e3, -⟩, e7, e8⟩ := h
 exact ⟨e2, e8, ho, e3, e7⟩
theorem turned_back {lp : List Nat} (hby : ByL lp) (hlen : lp.length ≤ 100000) {b0 : Bool} {n1 n6 : Int} (ho : vpOut (lI lp) = (#[.bool b0, .int .u8 n1, .bool true, .bool (vWide (lI lp)), .int .u16 (vPic (lI lp)), .bool (vKey (lI lp)), .int .i64 n6], 2, 0)) (hl2 : 2 < (lI lp).length) (hl3 : vWide (lI lp) = true → 3 < (lI lp).length) {n2 : Int} (hn2 : 0 ≤ n2) {L' : List Int} (hL : L' = turnN (lI lp) n2 (vWide (lI lp))) (pq : Int) (hpq : pq = vPic (lI lp)) (w0 w : World) {sv : Option Addr} {nv cv : Nat} (h : PayAt w0 w sv nv cv L') :
  Calls Try.prog 14 #[.slice sv nv cv, .int .u16 pq] w fun e w' => ∃ s2 m2 c2, e = .returned (.tuple #[.slice s2 m2 c2, .bool true]) ∧ SlB w' s2 m2 c2 (lI lp) ∧ BW w w' := by
 have hr := lI_by hby
 rw [vp_eq _ (getD_range hr)] at ho
 obtain ⟨-, -, -, hR⟩ := turn_law (lI lp) hr n2 hn2 b0 n1 _ _ _ n6 2 ho
 obtain ⟨hb, hq0, hq1⟩ := turn_back hr ho n2
 subst hL hpq
 have hlL : (turnN (lI lp) n2 (vWide (lI lp))).length = (lI lp).length := turnN_len _ _ _
 have hli : (lI lp).length = lp.length := by unfold lI; rw [List.length_map]
 cases hw : vWide (lI lp) with
 | false =>
  rw [hw] at hR h hlL hb
  refine (rturn_narrow _ sv nv cv (vPic (lI lp)) w h.1 (by omega) hq0 hq1 b0 (by omega) n1 _ _ n6 hR).mono ?_
  rintro e w' ⟨v, he, hO, hB⟩
  rw [hb] at hO
  obtain ⟨s2, c2, rfl, hs⟩ := hO.slB hr
  exact ⟨s2, _, c2, he, hs, hB⟩
 | true =>
  rw [hw] at hR h hlL hb
  refine (rturn_wide _ sv nv cv (vPic (lI lp)) w h.1 (by omega) hq0 hq1 b0 (by have := hl3 hw; omega) n1 _ _ n6 hR).mono ?_
  rintro e w' ⟨v, he, hO, hB⟩
  rw [hb] at hO
  obtain ⟨s2, c2, rfl, hs⟩ := hO.slB hr
  exact ⟨s2, _, c2, he, hs, hB⟩
end Go.Proofs.Ytojedpahaifjgaa
