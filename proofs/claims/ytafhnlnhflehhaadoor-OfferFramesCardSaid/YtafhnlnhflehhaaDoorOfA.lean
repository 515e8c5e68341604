/- Offers as they lie in memory: elements, reading. No condition. -/
import Derived.Test.YtafhnlnhflehhaaDoorOfP
import Derived.Test.YtafhnlnhflehhaaDoorPuE
import Derived.Test.YtafhnlnhflehhaaDoorNs
import Derived.Test.YtafhnlnhflehhaaDoorI1d
namespace Go.Proofs.YtafhnlnhflehhaaDoor
open Go.RowKit
def u4V (x : Nat) : List Value := [.int .u32 (x : Nat)]
def EU4 : Elt Nat := pureE 1 u4V (by decide) (fun _ => rfl) (fun r u hu => by simp only [u4V, List.mem_cons, List.not_mem_nil, or_false] at hu; rw [hu]; rfl)
def heV (x : HearD) : List Value := [.int .i64 x.o, .int .i64 x.t, .int .i64 x.l]
def EHe : Elt HearD := pureE 3 heV (by decide) (fun _ => rfl) (fun r u hu => by simp only [heV, List.mem_cons, List.not_mem_nil, or_false] at hu; rcases hu with rfl | rfl | rfl <;> rfl)
def EWi : Elt WishD where
 size := 3
 R := fun w b d c => b = 0 ∧ ∃ (s : Option Addr) (n cp : Nat), c = [.int .i64 d.t, .int .i64 d.c, .slice s n cp] ∧ SQ EU4 w 0 (.slice s n cp) n d.s
 Ok := fun _ _ => False
 pos := by decide
 len := fun ⟨_, s, n, cp, e, _⟩ => by rw [e]; rfl
 one := fun ⟨_, s, n, cp, e, _⟩ u hu => by
  rw [e] at hu
  simp only [List.mem_cons, List.not_mem_nil, or_false] at hu
  rcases hu with rfl | rfl | rfl <;> rfl
 bw := fun ⟨h0, s, n, cp, e, hn⟩ hb => ⟨h0, s, n, cp, e, hn.bw hb⟩
 up := fun ⟨h0, r⟩ hb => ⟨by omega, r⟩
 still := fun ⟨h0, s, n, cp, e, hn⟩ hs hS => ⟨h0, s, n, cp, e, hn.still hs (fun _ _ => trivial) (fun g _ hm => hS g hm)⟩
 old := fun ⟨h0, s, n, cp, e, hn⟩ hs hS => ⟨h0, s, n, cp, e, hn.still hs (fun _ _ => trivial) (fun g _ hm => by have := hS g hm; omega)⟩
theorem wi_form {w : World} {sv : Option Addr} {n cap : Nat} {L : List WishD} (h : SQ EWi w 0 (.slice sv n cap) n L) (h0 : 0 < n) :
  ∃ g o, sv = some ⟨g, o, none⟩ ∧ g < w.heap.size ∧ ∀ i (_ : i < L.length), ∃ (s : Option Addr) (m cp : Nat), w.cell? ⟨g, o + i * 3, none⟩ = some (.int .i64 L[i].t) ∧ w.cell? ⟨g, o + i * 3 + 1, none⟩ = some (.int .i64 L[i].c) ∧ w.cell? ⟨g, o + i * 3 + 2, none⟩ = some (.slice s m cp) ∧ SQ EU4 w 0 (.slice s m cp) m L[i].s := by
 obtain ⟨g, o, cap', hsl, hlt, _, _, hce⟩ := h.form h0
 simp only [Value.slice.injEq] at hsl
 refine ⟨g, o, hsl.1, hlt, fun i hi => ?_⟩
 obtain ⟨c, ⟨-, s, m, cp, hc, hs⟩, hcc⟩ := hce i hi
 have z0 := hcc 0 (by decide)
 have z1 := hcc 1 (by decide)
 have z2 := hcc 2 (by decide)
 have e2 : EWi.size = 3 := rfl
 rw [hc, e2] at z0 z1 z2
 exact ⟨s, m, cp, z0, z1, z2, hs⟩
def offC (d : OffD) (sW : Option Addr) (cW : Nat) (sH : Option Addr) (cH : Nat) : Array Value := #[.int .i64 d.seat, .slice sW d.W.length cW, .slice sH d.H.length cH]
structure OffV (w : World) (cs : Array Value) (d : OffD) (sW : Option Addr) (cW : Nat) (sH : Option Addr) (cH : Nat) : Prop where
 e : cs = offC d sW cW sH cH
 wq : SQ EWi w 0 (.slice sW d.W.length cW) d.W.length d.W
 hq : SQ EHe w 0 (.slice sH d.H.length cH) d.H.length d.H
theorem OffV.bw {w w' : World} {cs : Array Value} {d : OffD} {sW : Option Addr} {cW : Nat} {sH : Option Addr} {cH : Nat} (h : OffV w cs d sW cW sH cH) (hb : BW w w') : OffV w' cs d sW cW sH cH := ⟨h.e, h.wq.bw hb, h.hq.bw hb⟩
theorem u4R' {w : World} {base : Nat} {cs : List Value} (h : Rd w (.label 6) cs) : ∃ a : Nat, a < 4294967296 ∧ EU4.R w base a cs := by
 obtain ⟨n, rfl, hw⟩ := h
 have hb := bounds_u32 hw
 exact ⟨n.toNat, by omega, show _ = u4V n.toNat by unfold u4V; rw [show ((n.toNat : Nat) : Int) = n by omega]; rfl⟩
theorem slc_of' {w : World} {e : Ty} {cs : List Value} (h : Rd w (.loop e) cs) : ∃ sa n c, cs = [.slice sa n c] := by
 rcases h with rfl | ⟨a, n, c, rfl, _⟩
 ·exact ⟨none, 0, 0, rfl⟩
 ·exact ⟨some a, n, c, rfl⟩
def WfW (d : WishD) : Prop := (-9223372036854775808 ≤ d.t ∧ d.t ≤ 9223372036854775807) ∧ (-9223372036854775808 ≤ d.c ∧ d.c ≤ 9223372036854775807) ∧ ∀ x ∈ d.s, x < 4294967296
def WfH (d : HearD) : Prop := (-9223372036854775808 ≤ d.o ∧ d.o ≤ 9223372036854775807) ∧ (-9223372036854775808 ≤ d.t ∧ d.t ≤ 9223372036854775807) ∧ (-9223372036854775808 ≤ d.l ∧ d.l ≤ 9223372036854775807)
abbrev wishTy : Ty := .scope (.seq (.label 3) (.seq (.label 3) (.seq (.loop (.label 6)) .skip)))
abbrev hearTy : Ty := .scope (.seq (.label 3) (.seq (.label 3) (.seq (.label 3) .skip)))
abbrev offTy : Ty := .scope (.seq (.label 3) (.seq (.loop wishTy) (.seq (.loop hearTy) .skip)))
theorem wishR {w : World} {cs : List Value} (h : Rd w wishTy cs) : ∃ d : WishD, WfW d ∧ EWi.R w 0 d cs := by
 obtain ⟨c0, r0, rfl, ⟨t, rfl, ht⟩, c1, r1, rfl, ⟨c, rfl, hc⟩, c2, r2, rfl, hS, h3⟩ := h
 have h3' : r2 = [] := h3
 subst h3'
 obtain ⟨s, n, cp, rfl⟩ := slc_of' hS
 obtain ⟨X, hX, hl⟩ := SQ_of_Rd (E := EU4) (fun a => a < 4294967296) _ 0 hS rfl (fun cs h => u4R' h)
 exact ⟨⟨t, c, X⟩, ⟨bounds_i64 ht, bounds_i64 hc, hl⟩, rfl, s, n, cp, rfl, hX⟩
theorem hearR {w : World} {base : Nat} {cs : List Value} (h : Rd w hearTy cs) : ∃ d : HearD, WfH d ∧ EHe.R w base d cs := by
 obtain ⟨c0, r0, rfl, ⟨o, rfl, ho⟩, c1, r1, rfl, ⟨t, rfl, ht⟩, c2, r2, rfl, ⟨l, rfl, hl⟩, h3⟩ := h
 have h3' : r2 = [] := h3
 subst h3'
 exact ⟨⟨o, t, l⟩, ⟨bounds_i64 ho, bounds_i64 ht, bounds_i64 hl⟩, rfl⟩
theorem off_of_Rd {w : World} {cs : Array Value} (h : Rd w offTy cs.toList) : ∃ d sW cW sH cH, OffV w cs d sW cW sH cH ∧ (-9223372036854775808 ≤ d.seat ∧ d.seat ≤ 9223372036854775807) ∧ (∀ x ∈ d.W, WfW x) ∧ (∀ x ∈ d.H, WfH x) := by
 obtain ⟨cl'⟩ := cs
 obtain ⟨c0, r0, h0, ⟨st, rfl, hst⟩, c1, r1, rfl, hW, c2, r2, rfl, hH, h3⟩ := h
 have h3' : r2 = [] := h3
 subst h3'
 obtain ⟨sW, nW, cW, rfl⟩ := slc_of' hW
 obtain ⟨sH, nH, cH, rfl⟩ := slc_of' hH
 obtain ⟨W, qW, bW⟩ := SQ_of_Rd (E := EWi) WfW _ 0 hW rfl (fun cs h => wishR h)
 obtain ⟨H, qH, bH⟩ := SQ_of_Rd (E := EHe) WfH _ 0 hH rfl (fun cs h => hearR h)
 have h0' : cl' = _ := h0
 subst h0'
 have e1 := qW.1
 have e2 := qH.1
 subst e1 e2
 exact ⟨⟨st, W, H⟩, sW, cW, sH, cH, ⟨rfl, qW, qH⟩, bounds_i64 hst, bW, bH⟩
end Go.Proofs.YtafhnlnhflehhaaDoor
