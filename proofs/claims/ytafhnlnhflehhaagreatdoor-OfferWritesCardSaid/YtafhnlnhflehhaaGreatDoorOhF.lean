/- Wishes of the call's own; rows of strings; what a reading has so far. No condition. -/
import Derived.Test.YtafhnlnhflehhaaGreatDoorGHa
import Derived.Test.YtafhnlnhflehhaaGreatDoorOhE
import Derived.Test.YtafhnlnhflehhaaGreatDoorGHb
namespace Go.Proofs.YtafhnlnhflehhaaGreatDoor
open Go.RowKit
def NoU (w : World) (k : Nat) : Prop := w.heap.size ≤ k ∨ ∃ cs t f, w.heap[k]? = some (.cells cs t f) ∧ t ≠ 38
theorem NoU.eq {w : World} {base : Nat} {v : Value} {n : Nat} {b : List Nat} (h : EQ EU4 38 w base v n b) {S : List Nat} (hS : ∀ k ∈ S, NoU w k) : ∀ g, v.ownBlock = some g → g ∉ S := fun g hg hm => by
 rcases hS g hm with h1 | ⟨cs, t, f, h1, h2⟩
 ·have := h.lt' g hg; omega
 ·exact h.ne h1 h2 g hg rfl
theorem NoU.hp {w : World} {k : Nat} {cs : Array Value} {t : TypeId} (h : HpB w k (.cells cs t)) (ht : t ≠ 38) : NoU w k := .inr ⟨_, _, _, h, ht⟩
theorem EQ.noU {α : Type} {E : Elt α} {T : TypeId} {w : World} {base : Nat} {v : Value} {n : Nat} {l : List α} (h : EQ E T w base v n l) (hT : T ≠ 38) : ∀ k ∈ v.ownBlock.toList, NoU w k := fun k hk => by
 obtain ⟨cs, hh⟩ := h.row k (by simpa using hk)
 exact .inr ⟨_, _, _, hh, hT⟩
def EWo : Elt WishD where
 size := 3
 R := fun w b d c => ∃ (s : Option Addr) (n cp : Nat), c = [.int .i64 d.t, .int .i64 d.c, .slice s n cp] ∧ EQ EU4 38 w b (.slice s n cp) n d.s
 Ok := NoU
 pos := by decide
 len := fun ⟨s, n, cp, e, _⟩ => by rw [e]; rfl
 one := fun ⟨s, n, cp, e, _⟩ u hu => by
  rw [e] at hu
  simp only [List.mem_cons, List.not_mem_nil, or_false] at hu
  rcases hu with rfl | rfl | rfl <;> rfl
 bw := fun ⟨s, n, cp, e, h⟩ hb => ⟨s, n, cp, e, h.bw hb⟩
 up := fun ⟨s, n, cp, e, h⟩ hb => ⟨s, n, cp, e, h.up hb⟩
 still := fun ⟨s, n, cp, e, h⟩ hs hS => ⟨s, n, cp, e, h.still hs (fun _ _ => trivial) (NoU.eq h hS)⟩
 old := fun ⟨s, n, cp, e, h⟩ hs hS => ⟨s, n, cp, e, h.old hs hS⟩
theorem EL.convB {α : Type} {E E' : Elt α} {w : World} {base base' : Nat} (hR : ∀ a c, E.R w base a c → E'.R w base' a c) : ∀ {l : List α} {xs : List Value}, EL E w base l xs → EL E' w base' l xs
 | [], _, h => h
 | _ :: _, _, ⟨c, xs', e, h1, h2⟩ => ⟨c, xs', e, hR _ _ h1, h2.convB hR⟩
theorem u4_zero {w : World} {b : Nat} {v : Value} {n : Nat} {l : List Nat} (h : EQ EU4 38 w b v n l) : SQ EU4 w 0 v n l := by
 obtain ⟨h1, xs, h2, h3⟩ := h.sq
 exact ⟨h1, xs, h2, EL.convB (E := EU4) (E' := EU4) (base := b) (base' := 0) (fun _ _ h => h) h3⟩
theorem ewo_ewi {w : World} {b : Nat} {T : TypeId} {v : Value} {n : Nat} {l : List WishD} (h : EQ EWo T w b v n l) : SQ EWi w 0 v n l := by
 obtain ⟨h1, xs, h2, h3⟩ := h.sq
 exact ⟨h1, xs, h2, EL.convB (E := EWo) (E' := EWi) (fun _ _ ⟨s, n, cp, e, h⟩ => ⟨rfl, s, n, cp, e, u4_zero h⟩) h3⟩
theorem ehe_zero {w : World} {b : Nat} {T : TypeId} {v : Value} {n : Nat} {l : List HearD} (h : EQ EHe T w b v n l) : SQ EHe w 0 v n l := by
 obtain ⟨h1, xs, h2, h3⟩ := h.sq
 exact ⟨h1, xs, h2, EL.convB (E := EHe) (E' := EHe) (base := b) (base' := 0) (fun _ _ h => h) h3⟩
theorem slWi : SlTy Tryz.prog 22 41 3 40 := SlTy.mk' Tryz.underlying22 (by kernel_rfl) (by decide)
theorem slHe : SlTy Tryz.prog 23 43 3 24 := SlTy.mk' Tryz.underlying23 (by kernel_rfl) (by decide)
theorem str_cells {w : World} {base n cp : Nat} {s : Option Addr} {T : TypeId} {ws : List BL} (h : EQ EStr T w base (.slice s n cp) n (ws.map bS)) (h0 : 0 < n) : ∃ g o, s = some ⟨g, o, none⟩ ∧ ∀ j x, ws[j]? = some x → w.cell? ⟨g, o + j, none⟩ = some (.string (bS x)) := by
 obtain ⟨g, o, cap', hsl, _, _, _, _, hce⟩ := h.form h0
 simp only [Value.slice.injEq] at hsl
 refine ⟨g, o, hsl.1, fun j x hx => ?_⟩
 obtain ⟨hj, rfl⟩ := List.getElem?_eq_some_iff.1 hx
 obtain ⟨c, hc, hcc⟩ := hce j (by simpa using hj)
 have hc' : c = [.string ((ws.map bS)[j]'(by simpa using hj))] := hc
 have z := hcc 0 (by decide)
 have e2 : EStr.size = 1 := rfl
 rw [hc', e2, Nat.mul_one, List.getElem_map] at z
 exact z
structure RdS (w : World) (base g : Nat) (d : OffD) (sW : Option Addr) (nW cW : Nat) (sH : Option Addr) (nH cH : Nat) : Prop where
 hp : HpB w g (.cells #[.int .i64 d.seat, .slice sW nW cW, .slice sH nH cH] 25)
 lt : g < base
 qw : EQ EWo 41 w base (.slice sW nW cW) nW d.W
 qh : EQ EHe 43 w base (.slice sH nH cH) nH d.H
theorem RdS.bw {w w' : World} {base g : Nat} {d : OffD} {sW : Option Addr} {nW cW : Nat} {sH : Option Addr} {nH cH : Nat} (h : RdS w base g d sW nW cW sH nH cH) (hb : BW w w') : RdS w' base g d sW nW cW sH nH cH := ⟨h.hp.bw hb, h.lt, h.qw.bw hb, h.qh.bw hb⟩
theorem RdS.seat {w : World} {base g : Nat} {d : OffD} {sW : Option Addr} {nW cW : Nat} {sH : Option Addr} {nH cH : Nat} (h : RdS w base g d sW nW cW sH nH cH) (v : Int) : RdS (w.setCell ⟨g, 0, none⟩ (.int .i64 v)) base g { d with seat := v } sW nW cW sH nH cH :=
 ⟨hp_set h.hp 0 _, h.lt, h.qw.old (still_setR w g 0 _) (by simp [h.lt]), h.qh.old (still_setR w g 0 _) (by simp [h.lt])⟩
theorem RdS.wish {w w1 : World} {base g : Nat} {d : OffD} {sW sW' : Option Addr} {nW cW nW' cW' : Nat} {sH : Option Addr} {nH cH : Nat} (h : RdS w base g d sW nW cW sH nH cH) (T : Still (Value.slice sW nW cW).ownBlock.toList w w1) {W' : List WishD} (q : EQ EWo 41 w1 base (.slice sW' nW' cW') nW' W') : RdS (w1.setCell ⟨g, 1, none⟩ (.slice sW' nW' cW')) base g { d with W := W' } sW' nW' cW' sH nH cH := by
 have h1 := h.hp.st T (fun hm => h.qw.ne h.hp (by decide) _ (by simpa using hm) rfl)
 have h2 : EQ EHe 43 w1 base (.slice sH nH cH) nH d.H := h.qh.still T (fun _ _ => trivial) (fun k hk hm => by
  obtain ⟨cs, hcs⟩ := h.qw.row k (by simpa using hm)
  exact h.qh.ne hcs (by decide) _ hk rfl)
 exact ⟨hp_set h1 1 _, h.lt, q.old (still_setR w1 g 1 _) (by simp [h.lt]), h2.old (still_setR w1 g 1 _) (by simp [h.lt])⟩
theorem RdS.hear {w w1 : World} {base g : Nat} {d : OffD} {sW : Option Addr} {nW cW : Nat} {sH sH' : Option Addr} {nH cH nH' cH' : Nat} (h : RdS w base g d sW nW cW sH nH cH) (T : Still (Value.slice sH nH cH).ownBlock.toList w w1) {H' : List HearD} (q : EQ EHe 43 w1 base (.slice sH' nH' cH') nH' H') : RdS (w1.setCell ⟨g, 2, none⟩ (.slice sH' nH' cH')) base g { d with H := H' } sW nW cW sH' nH' cH' := by
 have h1 := h.hp.st T (fun hm => h.qh.ne h.hp (by decide) _ (by simpa using hm) rfl)
 have h2 : EQ EWo 41 w1 base (.slice sW nW cW) nW d.W := h.qw.still T (h.qh.noU (by decide)) (fun k hk hm => by
  obtain ⟨cs, hcs⟩ := h.qh.row k (by simpa using hm)
  exact h.qw.ne hcs (by decide) _ hk rfl)
 exact ⟨hp_set h1 2 _, h.lt, h2.old (still_setR w1 g 2 _) (by simp [h.lt]), q.old (still_setR w1 g 2 _) (by simp [h.lt])⟩
theorem RdS.off {w : World} {base g : Nat} {d : OffD} {sW : Option Addr} {nW cW : Nat} {sH : Option Addr} {nH cH : Nat} (h : RdS w base g d sW nW cW sH nH cH) : OffV w #[.int .i64 d.seat, .slice sW nW cW, .slice sH nH cH] d sW cW sH cH := by
 have e1 := h.qw.1
 have e2 := h.qh.1
 subst e1 e2
 exact ⟨rfl, ewo_ewi h.qw, ehe_zero h.qh⟩
end Go.Proofs.YtafhnlnhflehhaaGreatDoor
