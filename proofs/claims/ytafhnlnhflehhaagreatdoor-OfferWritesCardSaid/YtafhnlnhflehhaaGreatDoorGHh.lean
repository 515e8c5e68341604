/- Offers as plain data: which one may be. Nothing of the program; no condition. Offers as they lie in memory: elements, reading. No condition. Is there an element for which a function tells true: ints, numbers of 32 bits, hears (printed by wip/gen/genOfB.py). No condition but the sizes'. Offers: below, twin, the bound on sources, is an offer great. No condition but the sizes'. -/
import Derived.Below
import Derived.Test.YtafhnlnhflehhaaGreatDoorGHj
import Derived.Test.YtafhnlnhflehhaaGreatDoorGHi
import Derived.Lib.Hide
namespace Go.Proofs.YtafhnlnhflehhaaGreatDoor
open Go.RowKit
structure WishD where
 t : Int
 c : Int
 s : List Nat
structure HearD where
 o : Int
 t : Int
 l : Int
structure OffD where
 seat : Int
 W : List WishD
 H : List HearD
def wi (W : List WishD) (i : Nat) : WishD := W.getD i ⟨0, 0, []⟩
def he (H : List HearD) (i : Nat) : HearD := H.getD i ⟨0, 0, 0⟩
def Sm (n : Int) : Prop := 0 ≤ n ∧ n < 255
def OkW (W : List WishD) (i : Nat) : Prop := Sm (wi W i).t ∧ (0 ≤ (wi W i).c ∧ (wi W i).c < 3) ∧ (0 < i → (wi W (i - 1)).t < (wi W i).t) ∧ (1 ≤ (wi W i).s.length ∧ (wi W i).s.length ≤ 4)
def allS (W : List WishD) : List Nat := W.flatMap (·.s)
def MayW (W : List WishD) : Prop := (∀ i, i < W.length → OkW W i) ∧ W.length ≤ 2 ∧ (allS W).Nodup ∧ ∀ x ∈ allS W, x < 1048576
def OkH (seat : Int) (H : List HearD) (i : Nat) : Prop := Sm (he H i).o ∧ Sm (he H i).t ∧ (-1 ≤ (he H i).l ∧ (he H i).l < 255) ∧ (he H i).o ≠ seat ∧ ∀ k, k < i → ¬ ((he H k).o = (he H i).o ∧ (he H k).t = (he H i).t)
def MayO (d : OffD) : Prop := Sm d.seat ∧ MayW d.W ∧ (∀ i, i < d.H.length → OkH d.seat d.H i) ∧ d.H.length ≤ 4
theorem wi_get {W : List WishD} {i : Nat} (h : i < W.length) : wi W i = W[i] := by
 unfold wi List.getD; rw [List.getElem?_eq_getElem h]; rfl
theorem he_get {H : List HearD} {i : Nat} (h : i < H.length) : he H i = H[i] := by
 unfold he List.getD; rw [List.getElem?_eq_getElem h]; rfl
theorem allS_take (W : List WishD) {i : Nat} (h : i < W.length) : allS (W.take (i + 1)) = allS (W.take i) ++ (wi W i).s := by
 rw [List.take_add_one, List.getElem?_eq_getElem h, wi_get h]
 unfold allS
 rw [List.flatMap_append]
 show _ ++ ([W[i]].flatMap fun x => x.s) = _
 rw [List.flatMap_singleton]
theorem allS_split (W : List WishD) {i : Nat} (h : i < W.length) : allS W = allS (W.take i) ++ ((wi W i).s ++ allS (W.drop (i + 1))) := by
 conv => lhs; rw [← List.take_append_drop i W, List.drop_eq_getElem_cons h]
 rw [wi_get h]
 unfold allS
 rw [List.flatMap_append, List.flatMap_cons]
theorem dup_not {W : List WishD} {i k : Nat} (h : i < W.length) (hk : k < (wi W i).s.length) (hm : (wi W i).s[k] ∈ allS (W.take i) ++ (wi W i).s.take k) : ¬ (allS W).Nodup := by
 intro hn
 rw [allS_split W h] at hn
 have e : (wi W i).s = (wi W i).s.take k ++ (wi W i).s[k] :: (wi W i).s.drop (k + 1) := by
  rw [← List.drop_eq_getElem_cons hk, List.take_append_drop]
 rw [e, List.append_assoc, ← List.append_assoc] at hn
 rw [List.nodup_append] at hn
 exact hn.2.2 _ hm _ (List.mem_append_left _ List.mem_cons_self) rfl
theorem src_mem {W : List WishD} {i k : Nat} (h : i < W.length) (hk : k < (wi W i).s.length) : (wi W i).s[k] ∈ allS W := by
 rw [allS_split W h]
 exact List.mem_append_right _ (List.mem_append_left _ (List.getElem_mem hk))
theorem not_okW {W : List WishD} {i : Nat} (h : i < W.length) (hn : ¬ OkW W i) : ¬ MayW W := fun hm => hn (hm.1 i h)
theorem nodup_snoc {l : List Nat} {x : Nat} (h : l.Nodup) (hx : ∀ y ∈ l, y ≠ x) : (l ++ [x]).Nodup := by
 rw [List.nodup_append]
 exact ⟨h, by simp, fun a ha b hb => by
  obtain rfl := List.mem_singleton.1 hb
  exact hx a ha⟩
end Go.Proofs.YtafhnlnhflehhaaGreatDoor

namespace Go.Proofs.YtafhnlnhflehhaaGreatDoor
open Go.RowKit
def u4V (x : Nat) : List Value := [.int .u32 (x : Nat)]
def EU4 : Elt Nat := pureE 1 u4V (by decide) (fun _ => rfl) (fun r u hu => by simp only [u4V, List.mem_cons, List.not_mem_nil, or_false] at hu; rw [hu]; rfl)
def heV (x : HearD) : List Value := [.int .i64 x.o, .int .i64 x.t, .int .i64 x.l]
def EHe : Elt HearD := pureE 3 heV (by decide) (fun _ => rfl) (fun r u hu => by simp only [heV, List.mem_cons, List.not_mem_nil, or_false] at hu; rcases hu with rfl | rfl | rfl <;> rfl)
def EWi : Elt WishD where
 size := 3
 R := fun w b d c => b = 0 ∧ ∃ (s : Option Addr) (n cp : Nat), c = [.int .i64 d.t, .int .i64 d.c, .slice s n cp] ∧ SQ EU4 w 0 (.slice s n cp) n d.s
 Ok := fun _ _ => False
 pos := by decide
 len := fun ⟨_, s, n, cp, e, _⟩ => by rw [e]; rfl
 one := fun ⟨_, s, n, cp, e, _⟩ u hu => by
  rw [e] at hu
  simp only [List.mem_cons, List.not_mem_nil, or_false] at hu
  rcases hu with rfl | rfl | rfl <;> rfl
 bw := fun ⟨h0, s, n, cp, e, hn⟩ hb => ⟨h0, s, n, cp, e, hn.bw hb⟩
 up := fun ⟨h0, r⟩ hb => ⟨by omega, r⟩
 still := fun ⟨h0, s, n, cp, e, hn⟩ hs hS => ⟨h0, s, n, cp, e, hn.still hs (fun _ _ => trivial) (fun g _ hm => hS g hm)⟩
 old := fun ⟨h0, s, n, cp, e, hn⟩ hs hS => ⟨h0, s, n, cp, e, hn.still hs (fun _ _ => trivial) (fun g _ hm => by have := hS g hm; omega)⟩
theorem wi_form {w : World} {sv : Option Addr} {n cap : Nat} {L : List WishD} (h : SQ EWi w 0 (.slice sv n cap) n L) (h0 : 0 < n) :
  ∃ g o, sv = some ⟨g, o, none⟩ ∧ g < w.heap.size ∧ ∀ i (_ : i < L.length), ∃ (s : Option Addr) (m cp : Nat), w.cell? ⟨g, o + i * 3, none⟩ = some (.int .i64 L[i].t) ∧ w.cell? ⟨g, o + i * 3 + 1, none⟩ = some (.int .i64 L[i].c) ∧ w.cell? ⟨g, o + i * 3 + 2, none⟩ = some (.slice s m cp) ∧ SQ EU4 w 0 (.slice s m cp) m L[i].s := by
 obtain ⟨g, o, cap', hsl, hlt, _, _, hce⟩ := h.form h0
 simp only [Value.slice.injEq] at hsl
 refine ⟨g, o, hsl.1, hlt, fun i hi => ?_⟩
 obtain ⟨c, ⟨-, s, m, cp, hc, hs⟩, hcc⟩ := hce i hi
 have z0 := hcc 0 (by decide)
 have z1 := hcc 1 (by decide)
 have z2 := hcc 2 (by decide)
 have e2 : EWi.size = 3 := rfl
 rw [hc, e2] at z0 z1 z2
 exact ⟨s, m, cp, z0, z1, z2, hs⟩
def offC (d : OffD) (sW : Option Addr) (cW : Nat) (sH : Option Addr) (cH : Nat) : Array Value := #[.int .i64 d.seat, .slice sW d.W.length cW, .slice sH d.H.length cH]
structure OffV (w : World) (cs : Array Value) (d : OffD) (sW : Option Addr) (cW : Nat) (sH : Option Addr) (cH : Nat) : Prop where
 e : cs = offC d sW cW sH cH
 wq : SQ EWi w 0 (.slice sW d.W.length cW) d.W.length d.W
 hq : SQ EHe w 0 (.slice sH d.H.length cH) d.H.length d.H
theorem OffV.bw {w w' : World} {cs : Array Value} {d : OffD} {sW : Option Addr} {cW : Nat} {sH : Option Addr} {cH : Nat} (h : OffV w cs d sW cW sH cH) (hb : BW w w') : OffV w' cs d sW cW sH cH := ⟨h.e, h.wq.bw hb, h.hq.bw hb⟩
theorem u4R' {w : World} {base : Nat} {cs : List Value} (h : Rd w (.label 6) cs) : ∃ a : Nat, a < 4294967296 ∧ EU4.R w base a cs := by
 obtain ⟨n, rfl, hw⟩ := h
 have hb := bounds_u32 hw
 exact ⟨n.toNat, by omega, show _ = u4V n.toNat by unfold u4V; rw [show ((n.toNat : Nat) : Int) = n by omega]; rfl⟩
theorem slc_of' {w : World} {e : Ty} {cs : List Value} (h : Rd w (.loop e) cs) : ∃ sa n c, cs = [.slice sa n c] := by
 rcases h with rfl | ⟨a, n, c, rfl, _⟩
 ·exact ⟨none, 0, 0, rfl⟩
 ·exact ⟨some a, n, c, rfl⟩
def WfW (d : WishD) : Prop := (-9223372036854775808 ≤ d.t ∧ d.t ≤ 9223372036854775807) ∧ (-9223372036854775808 ≤ d.c ∧ d.c ≤ 9223372036854775807) ∧ ∀ x ∈ d.s, x < 4294967296
def WfH (d : HearD) : Prop := (-9223372036854775808 ≤ d.o ∧ d.o ≤ 9223372036854775807) ∧ (-9223372036854775808 ≤ d.t ∧ d.t ≤ 9223372036854775807) ∧ (-9223372036854775808 ≤ d.l ∧ d.l ≤ 9223372036854775807)
abbrev wishTy : Ty := .scope (.seq (.label 3) (.seq (.label 3) (.seq (.loop (.label 6)) .skip)))
abbrev hearTy : Ty := .scope (.seq (.label 3) (.seq (.label 3) (.seq (.label 3) .skip)))
abbrev offTy : Ty := .scope (.seq (.label 3) (.seq (.loop wishTy) (.seq (.loop hearTy) .skip)))
theorem wishR {w : World} {cs : List Value} (h : Rd w wishTy cs) : ∃ d : WishD, WfW d ∧ EWi.R w 0 d cs := by
 obtain ⟨c0, r0, rfl, ⟨t, rfl, ht⟩, c1, r1, rfl, ⟨c, rfl, hc⟩, c2, r2, rfl, hS, h3⟩ := h
 have h3' : r2 = [] := h3
 subst h3'
 obtain ⟨s, n, cp, rfl⟩ := slc_of' hS
 obtain ⟨X, hX, hl⟩ := SQ_of_Rd (E := EU4) (fun a => a < 4294967296) _ 0 hS rfl (fun cs h => u4R' h)
 exact ⟨⟨t, c, X⟩, ⟨bounds_i64 ht, bounds_i64 hc, hl⟩, rfl, s, n, cp, rfl, hX⟩
theorem hearR {w : World} {base : Nat} {cs : List Value} (h : Rd w hearTy cs) : ∃ d : HearD, WfH d ∧ EHe.R w base d cs := by
 obtain ⟨c0, r0, rfl, ⟨o, rfl, ho⟩, c1, r1, rfl, ⟨t, rfl, ht⟩, c2, r2, rfl, ⟨l, rfl, hl⟩, h3⟩ := h
 have h3' : r2 = [] := h3
 subst h3'
 exact ⟨⟨o, t, l⟩, ⟨bounds_i64 ho, bounds_i64 ht, bounds_i64 hl⟩, rfl⟩
theorem off_of_Rd {w : World} {cs : Array Value} (h : Rd w offTy cs.toList) : ∃ d sW cW sH cH, OffV w cs d sW cW sH cH ∧ (-9223372036854775808 ≤ d.seat ∧ d.seat ≤ 9223372036854775807) ∧ (∀ x ∈ d.W, WfW x) ∧ (∀ x ∈ d.H, WfH x) := by
 obtain ⟨cl'⟩ := cs
 obtain ⟨c0, r0, h0, ⟨st, rfl, hst⟩, c1, r1, rfl, hW, c2, r2, rfl, hH, h3⟩ := h
 have h3' : r2 = [] := h3
 subst h3'
 obtain ⟨sW, nW, cW, rfl⟩ := slc_of' hW
 obtain ⟨sH, nH, cH, rfl⟩ := slc_of' hH
 obtain ⟨W, qW, bW⟩ := SQ_of_Rd (E := EWi) WfW _ 0 hW rfl (fun cs h => wishR h)
 obtain ⟨H, qH, bH⟩ := SQ_of_Rd (E := EHe) WfH _ 0 hH rfl (fun cs h => hearR h)
 have h0' : cl' = _ := h0
 subst h0'
 have e1 := qW.1
 have e2 := qH.1
 subst e1 e2
 exact ⟨⟨st, W, H⟩, sW, cW, sH, cH, ⟨rfl, qW, qH⟩, bounds_i64 hst, bW, bH⟩
end Go.Proofs.YtafhnlnhflehhaaGreatDoor

namespace Go.Proofs.YtafhnlnhflehhaaGreatDoor
open Go.RowKit
def firstA {α : Type} (p : α → Bool) : List α → Nat
 | [] => 0
 | x :: l => if p x then 0 else firstA p l + 1
theorem firstA_cons {α : Type} (p : α → Bool) (x : α) (l : List α) : firstA p (x :: l) = if p x then 0 else firstA p l + 1 := rfl
theorem firstA_any {α : Type} (p : α → Bool) : ∀ l : List α, l.any p = decide (firstA p l < l.length)
 | [] => rfl
 | x :: l => by
  rw [firstA_cons]
  have := firstA_any p l
  cases h : p x with
  | true => simp [h]
  | false => simp [h, this]
theorem firstA_drop {α : Type} (p : α → Bool) : ∀ (k : Nat) (l : List α), (∀ x ∈ l.take k, p x = false) → firstA p l = min k l.length + firstA p (l.drop k)
 | 0, l, _ => by simp
 | k + 1, [], _ => by simp [firstA]
 | k + 1, x :: l, h => by
  have h1 := h x (by simp)
  have h2 := firstA_drop p k l (fun y hy => h y (by simp [hy]))
  rw [firstA_cons, h1]
  simp only [Bool.false_eq_true, if_false, List.length_cons, List.drop_succ_cons]
  rw [h2]
  omega
def idxA {α : Type} (p : α → Bool) (l : List α) : Int := if firstA p l < l.length then (firstA p l : Nat) else -1
theorem idxA_any {α : Type} (p : α → Bool) (L : List α) : decide (0 ≤ idxA p L) = L.any p := by
 rw [firstA_any]
 unfold idxA
 by_cases h : firstA p L < L.length
 ·rw [if_pos h]; simp [h]
 ·rw [if_neg h]; simp [h]
theorem formI {w : World} {base : Nat} {sv : Option Addr} {n cap : Nat} {L : List Int} (h : SQ I1 w base (.slice sv n cap) n L) (h0 : 0 < n) :
  ∃ g o, sv = some ⟨g, o, none⟩ ∧ g < w.heap.size ∧ ∀ i (_ : i < L.length), ∀ j, j < 1 → w.cell? ⟨g, o + i * 1 + j, none⟩ = ((fun x : Int => ([.int .i64 x] : List Value)) L[i])[j]? := by
 obtain ⟨g, o, cap', hsl, hlt, _, _, hce⟩ := h.form h0
 simp only [Value.slice.injEq] at hsl
 refine ⟨g, o, hsl.1, hlt, fun i hi j hj => ?_⟩
 obtain ⟨c, hc, hcc⟩ := hce i hi
 have hc' : c = (fun x : Int => ([.int .i64 x] : List Value)) L[i] := hc
 have z0 := hcc j (by show j < 1; exact hj)
 have e2 : I1.size = 1 := rfl
 rw [hc', e2, ← Nat.add_assoc] at z0
 exact z0
def AskI (F : FuncId) (caps : List Value) (p : Int → Bool) (L : List Int) (w : World) : Prop :=
 ∀ (x : Int) (_ : x ∈ L) (wx : World), BW w wx → Calls Tryz.prog F (.int .i64 x :: caps).toArray wx fun e w' => e = .returned (.bool (p x)) ∧ BW wx w'
set_option maxRecDepth 100000 in
set_option maxHeartbeats 8000000 in
theorem idxI (base n : Nat) (v : Value) (L : List Int) (F : FuncId) (caps : List Value) (p : Int → Bool) (w : World) (h : SQ I1 w base v n L) (hn : n ≤ 1000000) (hF : AskI F caps p L w) (hN : ∀ (args : Array Value) (w : World), (callFunc F args).run Tryz.prog w = .ok (.enter F args) w) :
  Calls Tryz.prog 63 #[v, .func (.func F) #[] caps.toArray] w fun e w' => e = .returned (.int .i64 (idxA p L)) ∧ BW w w' := by
 obtain ⟨sa, cap, rfl, hnc, hcm⟩ := h.len
 unfold maxLen at hcm
 have hH := Lib.hid h
 have hdl := Lib.hid h.1
 have hFF := Lib.hid hF
 clear h hF
 have hA : ∀ x ∈ L.take 0, p x = false := fun x hx => by simp at hx
 obtain ⟨R, hR⟩ : ∃ R, idxA p L = R := ⟨_, rfl⟩
 rw [hR]
 replace hA := Lib.hid hA
 replace hR := Lib.hid hR
 go_enter Tryz.func63, Tryz.ntmps63
 go_upto_region 2 with (fail)
 go_loopg [8] n (fun m' i wx => ∃ k : Nat, m' = n - k ∧ k ≤ n ∧ i = .int .i64 (k : Nat) ∧ Hid (∀ x ∈ L.take k, p x = false) ∧ Hid (BW w wx))
 case atStart => exact ⟨0, by omega, by omega, rfl, hA, BW.refl _⟩
 case round =>
  clear hA
  obtain ⟨k, rfl, hk, rfl, hA, B⟩ := hrel
  by_cases hkn : k < n
  ·have d : decide ((k : Int) < (n : Int)) = true := by simp; omega
   have hkD : k < L.length := by rw [hdl.out]; exact hkn
   obtain ⟨g, o, rfl, -, hc⟩ := formI (hH.out.bw B.out) (by omega)
   have z0 := (hc k hkD 0 (by decide)).trans (show _ = some (.int .i64 L[k]) from rfl)
   rw [Nat.add_zero] at z0
   try rw [Nat.mul_one] at z0
   have hfd := firstA_drop p k L hA.out
   rw [List.drop_eq_getElem_cons hkD] at hfd
   have htk : L.take (k + 1) = L.take k ++ [L[k]] := List.take_succ_eq_append_getElem hkD
   have cF := hFF.out L[k] (List.getElem_mem _) wr B.out
   generalize L[k] = x at *
   clear hc
   replace cF := Lib.hid cF
   replace hfd := Lib.hid hfd
   replace htk := Lib.hid htk
   go_wp2_with fail
   refine Calls.mono cF.out ?_
   rintro e w2 ⟨rfl, hb⟩
   have B2 := Lib.hid (B.out.trans hb)
   clear cF z0 hb B
   dsimp only
   cases hq : p x with
   | true =>
    have hRk : R = (k : Nat) := by
     have h1 := hfd.out
     rw [firstA_cons, hq] at h1
     simp only [if_true, Nat.add_zero] at h1
     rw [← hR.out]
     unfold idxA
     rw [h1, if_pos (by omega), Nat.min_eq_left (by omega)]
    replace hq := Lib.hid hq
    replace hRk := Lib.hid hRk
    go_wp2_with fail
    go_ret
    exact ⟨by rw [hRk.out]; rfl, B2.out⟩
   | false =>
    have hA2 : ∀ x ∈ L.take (k + 1), p x = false := fun y hy => by
     rw [htk.out] at hy
     rcases List.mem_append.1 hy with hy | hy
     ·exact hA.out y hy
     ·have e : y = x := by simpa using hy
      rw [e]; exact hq
    replace hA2 := Lib.hid hA2
    replace hq := Lib.hid hq
    go_wp2_with fail
    go_roundg (n - (k + 1))
    case measure => omega
    case rel => exact ⟨k + 1, rfl, by omega, by push_cast; rfl, hA2, B2⟩
  ·obtain rfl : k = n := by omega
   have d : decide ((k : Int) < (k : Int)) = false := by simp
   have hRk : R = -1 := by
    have h1 := firstA_drop p k L hA.out
    rw [List.drop_of_length_le (by rw [hdl.out]; exact Nat.le_refl _)] at h1
    have h2 := hdl.out
    simp only [firstA] at h1
    rw [← hR.out]
    unfold idxA
    exact if_neg (by omega)
   replace hRk := Lib.hid hRk
   go_wp2_with fail
   go_ret
   exact ⟨by rw [hRk.out]; rfl, B.out⟩
set_option maxRecDepth 100000 in
set_option maxHeartbeats 8000000 in
theorem hasI (base n : Nat) (v : Value) (L : List Int) (F : FuncId) (caps : List Value) (p : Int → Bool) (w : World) (h : SQ I1 w base v n L) (hn : n ≤ 1000000) (hF : AskI F caps p L w) (hN : ∀ (args : Array Value) (w : World), (callFunc F args).run Tryz.prog w = .ok (.enter F args) w) :
  Calls Tryz.prog 42 #[v, .func (.func F) #[] caps.toArray] w fun e w' => e = .returned (.bool (L.any p)) ∧ BW w w' := by
 have cI := Lib.hid (idxI base n v L F caps p w h hn hF hN)
 have hd := idxA_any p L
 obtain ⟨_, _, rfl, _, _⟩ := h.len
 clear h hF hN
 generalize idxA p L = R at *
 generalize L.any p = bb at *
 go_enter Tryz.func42, Tryz.ntmps42
 go_wp2_with fail
 refine Calls.mono cI.out ?_
 rintro e w2 ⟨rfl, hb⟩
 replace hb := Lib.hid hb
 dsimp only
 go_wp2_with fail
 go_ret
 exact ⟨rfl, hb.out⟩
theorem formU {w : World} {base : Nat} {sv : Option Addr} {n cap : Nat} {L : List Nat} (h : SQ EU4 w base (.slice sv n cap) n L) (h0 : 0 < n) :
  ∃ g o, sv = some ⟨g, o, none⟩ ∧ g < w.heap.size ∧ ∀ i (_ : i < L.length), ∀ j, j < 1 → w.cell? ⟨g, o + i * 1 + j, none⟩ = ((fun x : Nat => ([.int .u32 (x : Nat)] : List Value)) L[i])[j]? := by
 obtain ⟨g, o, cap', hsl, hlt, _, _, hce⟩ := h.form h0
 simp only [Value.slice.injEq] at hsl
 refine ⟨g, o, hsl.1, hlt, fun i hi j hj => ?_⟩
 obtain ⟨c, hc, hcc⟩ := hce i hi
 have hc' : c = (fun x : Nat => ([.int .u32 (x : Nat)] : List Value)) L[i] := hc
 have z0 := hcc j (by show j < 1; exact hj)
 have e2 : EU4.size = 1 := rfl
 rw [hc', e2, ← Nat.add_assoc] at z0
 exact z0
def AskU (F : FuncId) (caps : List Value) (p : Nat → Bool) (L : List Nat) (w : World) : Prop :=
 ∀ (x : Nat) (_ : x ∈ L) (wx : World), BW w wx → Calls Tryz.prog F (.int .u32 (x : Nat) :: caps).toArray wx fun e w' => e = .returned (.bool (p x)) ∧ BW wx w'
set_option maxRecDepth 100000 in
set_option maxHeartbeats 8000000 in
theorem idxU (base n : Nat) (v : Value) (L : List Nat) (F : FuncId) (caps : List Value) (p : Nat → Bool) (w : World) (h : SQ EU4 w base v n L) (hn : n ≤ 1000000) (hF : AskU F caps p L w) (hN : ∀ (args : Array Value) (w : World), (callFunc F args).run Tryz.prog w = .ok (.enter F args) w) :
  Calls Tryz.prog 66 #[v, .func (.func F) #[] caps.toArray] w fun e w' => e = .returned (.int .i64 (idxA p L)) ∧ BW w w' := by
 obtain ⟨sa, cap, rfl, hnc, hcm⟩ := h.len
 unfold maxLen at hcm
 have hH := Lib.hid h
 have hdl := Lib.hid h.1
 have hFF := Lib.hid hF
 clear h hF
 have hA : ∀ x ∈ L.take 0, p x = false := fun x hx => by simp at hx
 obtain ⟨R, hR⟩ : ∃ R, idxA p L = R := ⟨_, rfl⟩
 rw [hR]
 replace hA := Lib.hid hA
 replace hR := Lib.hid hR
 go_enter Tryz.func66, Tryz.ntmps66
 go_upto_region 2 with (fail)
 go_loopg [8] n (fun m' i wx => ∃ k : Nat, m' = n - k ∧ k ≤ n ∧ i = .int .i64 (k : Nat) ∧ Hid (∀ x ∈ L.take k, p x = false) ∧ Hid (BW w wx))
 case atStart => exact ⟨0, by omega, by omega, rfl, hA, BW.refl _⟩
 case round =>
  clear hA
  obtain ⟨k, rfl, hk, rfl, hA, B⟩ := hrel
  by_cases hkn : k < n
  ·have d : decide ((k : Int) < (n : Int)) = true := by simp; omega
   have hkD : k < L.length := by rw [hdl.out]; exact hkn
   obtain ⟨g, o, rfl, -, hc⟩ := formU (hH.out.bw B.out) (by omega)
   have z0 := (hc k hkD 0 (by decide)).trans (show _ = some (.int .u32 (L[k] : Nat)) from rfl)
   rw [Nat.add_zero] at z0
   try rw [Nat.mul_one] at z0
   have hfd := firstA_drop p k L hA.out
   rw [List.drop_eq_getElem_cons hkD] at hfd
   have htk : L.take (k + 1) = L.take k ++ [L[k]] := List.take_succ_eq_append_getElem hkD
   have cF := hFF.out L[k] (List.getElem_mem _) wr B.out
   generalize L[k] = x at *
   clear hc
   replace cF := Lib.hid cF
   replace hfd := Lib.hid hfd
   replace htk := Lib.hid htk
   go_wp2_with fail
   refine Calls.mono cF.out ?_
   rintro e w2 ⟨rfl, hb⟩
   have B2 := Lib.hid (B.out.trans hb)
   clear cF z0 hb B
   dsimp only
   cases hq : p x with
   | true =>
    have hRk : R = (k : Nat) := by
     have h1 := hfd.out
     rw [firstA_cons, hq] at h1
     simp only [if_true, Nat.add_zero] at h1
     rw [← hR.out]
     unfold idxA
     rw [h1, if_pos (by omega), Nat.min_eq_left (by omega)]
    replace hq := Lib.hid hq
    replace hRk := Lib.hid hRk
    go_wp2_with fail
    go_ret
    exact ⟨by rw [hRk.out]; rfl, B2.out⟩
   | false =>
    have hA2 : ∀ x ∈ L.take (k + 1), p x = false := fun y hy => by
     rw [htk.out] at hy
     rcases List.mem_append.1 hy with hy | hy
     ·exact hA.out y hy
     ·have e : y = x := by simpa using hy
      rw [e]; exact hq
    replace hA2 := Lib.hid hA2
    replace hq := Lib.hid hq
    go_wp2_with fail
    go_roundg (n - (k + 1))
    case measure => omega
    case rel => exact ⟨k + 1, rfl, by omega, by push_cast; rfl, hA2, B2⟩
  ·obtain rfl : k = n := by omega
   have d : decide ((k : Int) < (k : Int)) = false := by simp
   have hRk : R = -1 := by
    have h1 := firstA_drop p k L hA.out
    rw [List.drop_of_length_le (by rw [hdl.out]; exact Nat.le_refl _)] at h1
    have h2 := hdl.out
    simp only [firstA] at h1
    rw [← hR.out]
    unfold idxA
    exact if_neg (by omega)
   replace hRk := Lib.hid hRk
   go_wp2_with fail
   go_ret
   exact ⟨by rw [hRk.out]; rfl, B.out⟩
set_option maxRecDepth 100000 in
set_option maxHeartbeats 8000000 in
theorem hasU (base n : Nat) (v : Value) (L : List Nat) (F : FuncId) (caps : List Value) (p : Nat → Bool) (w : World) (h : SQ EU4 w base v n L) (hn : n ≤ 1000000) (hF : AskU F caps p L w) (hN : ∀ (args : Array Value) (w : World), (callFunc F args).run Tryz.prog w = .ok (.enter F args) w) :
  Calls Tryz.prog 48 #[v, .func (.func F) #[] caps.toArray] w fun e w' => e = .returned (.bool (L.any p)) ∧ BW w w' := by
 have cI := Lib.hid (idxU base n v L F caps p w h hn hF hN)
 have hd := idxA_any p L
 obtain ⟨_, _, rfl, _, _⟩ := h.len
 clear h hF hN
 generalize idxA p L = R at *
 generalize L.any p = bb at *
 go_enter Tryz.func48, Tryz.ntmps48
 go_wp2_with fail
 refine Calls.mono cI.out ?_
 rintro e w2 ⟨rfl, hb⟩
 replace hb := Lib.hid hb
 dsimp only
 go_wp2_with fail
 go_ret
 exact ⟨rfl, hb.out⟩
theorem formH {w : World} {base : Nat} {sv : Option Addr} {n cap : Nat} {L : List HearD} (h : SQ EHe w base (.slice sv n cap) n L) (h0 : 0 < n) :
  ∃ g o, sv = some ⟨g, o, none⟩ ∧ g < w.heap.size ∧ ∀ i (_ : i < L.length), ∀ j, j < 3 → w.cell? ⟨g, o + i * 3 + j, none⟩ = ((fun x : HearD => ([.int .i64 x.o, .int .i64 x.t, .int .i64 x.l] : List Value)) L[i])[j]? := by
 obtain ⟨g, o, cap', hsl, hlt, _, _, hce⟩ := h.form h0
 simp only [Value.slice.injEq] at hsl
 refine ⟨g, o, hsl.1, hlt, fun i hi j hj => ?_⟩
 obtain ⟨c, hc, hcc⟩ := hce i hi
 have hc' : c = (fun x : HearD => ([.int .i64 x.o, .int .i64 x.t, .int .i64 x.l] : List Value)) L[i] := hc
 have z0 := hcc j (by show j < 3; exact hj)
 have e2 : EHe.size = 3 := rfl
 rw [hc', e2, ← Nat.add_assoc] at z0
 exact z0
def AskH (F : FuncId) (caps : List Value) (p : HearD → Bool) (L : List HearD) (w : World) : Prop :=
 ∀ (x : HearD) (_ : x ∈ L) (wx : World), BW w wx → Calls Tryz.prog F (.agg #[.int .i64 x.o, .int .i64 x.t, .int .i64 x.l] :: caps).toArray wx fun e w' => e = .returned (.bool (p x)) ∧ BW wx w'
set_option maxRecDepth 100000 in
set_option maxHeartbeats 8000000 in
theorem idxH (base n : Nat) (v : Value) (L : List HearD) (F : FuncId) (caps : List Value) (p : HearD → Bool) (w : World) (h : SQ EHe w base v n L) (hn : n ≤ 1000000) (hF : AskH F caps p L w) (hN : ∀ (args : Array Value) (w : World), (callFunc F args).run Tryz.prog w = .ok (.enter F args) w) :
  Calls Tryz.prog 44 #[v, .func (.func F) #[] caps.toArray] w fun e w' => e = .returned (.int .i64 (idxA p L)) ∧ BW w w' := by
 obtain ⟨sa, cap, rfl, hnc, hcm⟩ := h.len
 unfold maxLen at hcm
 have hH := Lib.hid h
 have hdl := Lib.hid h.1
 have hFF := Lib.hid hF
 clear h hF
 have hA : ∀ x ∈ L.take 0, p x = false := fun x hx => by simp at hx
 obtain ⟨R, hR⟩ : ∃ R, idxA p L = R := ⟨_, rfl⟩
 rw [hR]
 replace hA := Lib.hid hA
 replace hR := Lib.hid hR
 go_enter Tryz.func44, Tryz.ntmps44
 go_upto_region 2 with (fail)
 go_loopg [8] n (fun m' i wx => ∃ k : Nat, m' = n - k ∧ k ≤ n ∧ i = .int .i64 (k : Nat) ∧ Hid (∀ x ∈ L.take k, p x = false) ∧ Hid (BW w wx))
 case atStart => exact ⟨0, by omega, by omega, rfl, hA, BW.refl _⟩
 case round =>
  clear hA
  obtain ⟨k, rfl, hk, rfl, hA, B⟩ := hrel
  by_cases hkn : k < n
  ·have d : decide ((k : Int) < (n : Int)) = true := by simp; omega
   have hkD : k < L.length := by rw [hdl.out]; exact hkn
   obtain ⟨g, o, rfl, -, hc⟩ := formH (hH.out.bw B.out) (by omega)
   have z0 := (hc k hkD 0 (by decide)).trans (show _ = some (.int .i64 L[k].o) from rfl)
   have z1 := (hc k hkD 1 (by decide)).trans (show _ = some (.int .i64 L[k].t) from rfl)
   have z2 := (hc k hkD 2 (by decide)).trans (show _ = some (.int .i64 L[k].l) from rfl)
   rw [Nat.add_zero] at z0
   try rw [Nat.mul_one] at z0
   have hfd := firstA_drop p k L hA.out
   rw [List.drop_eq_getElem_cons hkD] at hfd
   have htk : L.take (k + 1) = L.take k ++ [L[k]] := List.take_succ_eq_append_getElem hkD
   have cF := hFF.out L[k] (List.getElem_mem _) wr B.out
   generalize L[k] = x at *
   clear hc
   replace cF := Lib.hid cF
   replace hfd := Lib.hid hfd
   replace htk := Lib.hid htk
   go_wp2_with fail
   refine Calls.mono cF.out ?_
   rintro e w2 ⟨rfl, hb⟩
   have B2 := Lib.hid (B.out.trans hb)
   clear cF z0 z1 z2 hb B
   dsimp only
   cases hq : p x with
   | true =>
    have hRk : R = (k : Nat) := by
     have h1 := hfd.out
     rw [firstA_cons, hq] at h1
     simp only [if_true, Nat.add_zero] at h1
     rw [← hR.out]
     unfold idxA
     rw [h1, if_pos (by omega), Nat.min_eq_left (by omega)]
    replace hq := Lib.hid hq
    replace hRk := Lib.hid hRk
    go_wp2_with fail
    go_ret
    exact ⟨by rw [hRk.out]; rfl, B2.out⟩
   | false =>
    have hA2 : ∀ x ∈ L.take (k + 1), p x = false := fun y hy => by
     rw [htk.out] at hy
     rcases List.mem_append.1 hy with hy | hy
     ·exact hA.out y hy
     ·have e : y = x := by simpa using hy
      rw [e]; exact hq
    replace hA2 := Lib.hid hA2
    replace hq := Lib.hid hq
    go_wp2_with fail
    go_roundg (n - (k + 1))
    case measure => omega
    case rel => exact ⟨k + 1, rfl, by omega, by push_cast; rfl, hA2, B2⟩
  ·obtain rfl : k = n := by omega
   have d : decide ((k : Int) < (k : Int)) = false := by simp
   have hRk : R = -1 := by
    have h1 := firstA_drop p k L hA.out
    rw [List.drop_of_length_le (by rw [hdl.out]; exact Nat.le_refl _)] at h1
    have h2 := hdl.out
    simp only [firstA] at h1
    rw [← hR.out]
    unfold idxA
    exact if_neg (by omega)
   replace hRk := Lib.hid hRk
   go_wp2_with fail
   go_ret
   exact ⟨by rw [hRk.out]; rfl, B.out⟩
set_option maxRecDepth 100000 in
set_option maxHeartbeats 8000000 in
theorem hasH (base n : Nat) (v : Value) (L : List HearD) (F : FuncId) (caps : List Value) (p : HearD → Bool) (w : World) (h : SQ EHe w base v n L) (hn : n ≤ 1000000) (hF : AskH F caps p L w) (hN : ∀ (args : Array Value) (w : World), (callFunc F args).run Tryz.prog w = .ok (.enter F args) w) :
  Calls Tryz.prog 28 #[v, .func (.func F) #[] caps.toArray] w fun e w' => e = .returned (.bool (L.any p)) ∧ BW w w' := by
 have cI := Lib.hid (idxH base n v L F caps p w h hn hF hN)
 have hd := idxA_any p L
 obtain ⟨_, _, rfl, _, _⟩ := h.len
 clear h hF hN
 generalize idxA p L = R at *
 generalize L.any p = bb at *
 go_enter Tryz.func28, Tryz.ntmps28
 go_wp2_with fail
 refine Calls.mono cI.out ?_
 rintro e w2 ⟨rfl, hb⟩
 replace hb := Lib.hid hb
 dsimp only
 go_wp2_with fail
 go_ret
 exact ⟨rfl, hb.out⟩
end Go.Proofs.YtafhnlnhflehhaaGreatDoor

namespace Go.Proofs.YtafhnlnhflehhaaGreatDoor
open Go.RowKit
def notSm (b x : Int) : Bool := decide (x < 0) || decide (b ≤ x)
set_option maxRecDepth 100000 in
set_option maxHeartbeats 8000000 in
theorem below1_any (g : Nat) (b x : Int) (w : World) (h : w.cell? ⟨g, 0, none⟩ = some (.int .i64 b)) :
  Calls Tryz.prog 43 #[.int .i64 x, .pointer (some ⟨g, 0, none⟩)] w fun e w' => e = .returned (.bool (notSm b x)) ∧ BW w w' := by
 obtain ⟨r, hr⟩ : ∃ r, notSm b x = r := ⟨_, rfl⟩
 rw [hr]
 unfold notSm at hr
 cases d1 : decide (x < 0) with
 | true =>
  rw [d1] at hr
  replace hr := Lib.hid hr
  go_enter Tryz.func43, Tryz.ntmps43
  go_wp2_with fail
  go_ret
  exact ⟨by rw [← hr.out]; rfl, BW.refl _⟩
 | false =>
  rw [d1] at hr
  replace hr := Lib.hid hr
  go_enter Tryz.func43, Tryz.ntmps43
  go_wp2_with fail
  go_ret
  exact ⟨by rw [← hr.out]; rfl, BW.refl _⟩
theorem below1_enter (args : Array Value) (w : World) : (callFunc 43 args).run Tryz.prog w = .ok (.enter 43 args) w := by kernel_rfl
theorem twin1_enter (args : Array Value) (w : World) : (callFunc 45 args).run Tryz.prog w = .ok (.enter 45 args) w := by kernel_rfl
theorem src1_enter (args : Array Value) (w : World) : (callFunc 49 args).run Tryz.prog w = .ok (.enter 49 args) w := by kernel_rfl
set_option maxRecDepth 100000 in
set_option maxHeartbeats 8000000 in
theorem below_any (base n : Nat) (v : Value) (L : List Int) (b : Int) (w : World) (h : SQ I1 w base v n L) (hn : n ≤ 1000000) :
  Calls Tryz.prog 27 #[.int .i64 b, v] w fun e w' => e = .returned (.bool (!L.any (notSm b))) ∧ BW w w' := by
 obtain ⟨_, _, rfl, _, _⟩ := h.len
 have BA : BW w (w.alloc (.cells #[.int .i64 b] 3)) := (BW.refl w).alloc
 have X := hp_cell (HpB.new w (.cells #[.int .i64 b] 3)) 0
 have cH := fun w1 (hb : BW w w1) (g : Nat) (hx : w1.cell? ⟨g, 0, none⟩ = some (.int .i64 b)) => hasI base n _ L 43 [.pointer (some ⟨g, 0, none⟩)] (notSm b) w1 (h.bw hb) hn (fun x _ wx hb2 => below1_any g b x wx (hb2.cell hx)) below1_enter
 generalize L.any (notSm b) = r at *
 replace BA := Lib.hid BA
 replace cH := Lib.hid cH
 clear h
 go_enter Tryz.func27, Tryz.ntmps27
 go_upto_region 1 with (fail)
 generalize w.alloc _ = w1 at *
 generalize w.heap.size = g at *
 replace X := Lib.hid X
 go_wp2_with fail
 refine Calls.mono (cH.out w1 BA.out g X.out) ?_
 rintro e w2 ⟨rfl, hb⟩
 replace hb := Lib.hid (BA.out.trans hb)
 dsimp only
 go_wp2_with fail
 go_ret
 exact ⟨rfl, hb.out⟩
set_option maxRecDepth 100000 in
set_option maxHeartbeats 8000000 in
theorem src1_any (x : Nat) (w : World) :
  Calls Tryz.prog 49 #[.int .u32 (x : Nat)] w fun e w' => e = .returned (.bool (decide (1048576 ≤ (x : Int)))) ∧ BW w w' := by
 go_enter Tryz.func49, Tryz.ntmps49
 go_wp2_with fail
 go_ret
 exact ⟨rfl, BW.refl _⟩
def twinB (x y : HearD) : Bool := (x.o == y.o) && (x.t == y.t)
set_option maxRecDepth 100000 in
set_option maxHeartbeats 8000000 in
theorem twin1_any (g : Nat) (x y : HearD) (w : World) (h : HpB w g (.cells #[.int .i64 x.o, .int .i64 x.t, .int .i64 x.l] 43)) :
  Calls Tryz.prog 45 #[.agg #[.int .i64 y.o, .int .i64 y.t, .int .i64 y.l], .pointer (some ⟨g, 0, none⟩)] w fun e w' => e = .returned (.bool (twinB x y)) ∧ BW w w' := by
 obtain ⟨r, hr⟩ : ∃ r, twinB x y = r := ⟨_, rfl⟩
 rw [hr]
 unfold twinB at hr
 obtain ⟨xo, xt, xl⟩ := x
 obtain ⟨yo, yt, yl⟩ := y
 dsimp only at hr h ⊢
 have BA : BW w (w.alloc (.cells #[.int .i64 yo, .int .i64 yt, .int .i64 yl] 43)) := (BW.refl w).alloc
 have Y := HpB.new w (.cells #[.int .i64 yo, .int .i64 yt, .int .i64 yl] 43)
 have X := h.bw BA
 replace BA := Lib.hid BA
 clear h
 cases d1 : (xo == yo) with
 | true =>
  rw [d1] at hr
  replace hr := Lib.hid hr
  go_enter Tryz.func45, Tryz.ntmps45
  go_upto_region 1 with (fail)
  generalize w.alloc _ = w1 at *
  generalize w.heap.size = gy at *
  have z0 := hp_cell (X) 0
  have z1 := hp_cell (X) 1
  have z2 := hp_cell (X) 2
  simp only [List.getElem?_toArray, List.getElem?_cons_zero, List.getElem?_cons_succ] at z0 z1 z2
  have y0 := hp_cell (Y) 0
  have y1 := hp_cell (Y) 1
  have y2 := hp_cell (Y) 2
  simp only [List.getElem?_toArray, List.getElem?_cons_zero, List.getElem?_cons_succ] at y0 y1 y2
  go_wp2_with fail
  go_ret
  exact ⟨by rw [← hr.out]; rfl, BA.out⟩
 | false =>
  rw [d1] at hr
  replace hr := Lib.hid hr
  go_enter Tryz.func45, Tryz.ntmps45
  go_upto_region 1 with (fail)
  generalize w.alloc _ = w1 at *
  generalize w.heap.size = gy at *
  have z0 := hp_cell (X) 0
  have z1 := hp_cell (X) 1
  have z2 := hp_cell (X) 2
  simp only [List.getElem?_toArray, List.getElem?_cons_zero, List.getElem?_cons_succ] at z0 z1 z2
  have y0 := hp_cell (Y) 0
  have y1 := hp_cell (Y) 1
  have y2 := hp_cell (Y) 2
  simp only [List.getElem?_toArray, List.getElem?_cons_zero, List.getElem?_cons_succ] at y0 y1 y2
  go_wp2_with fail
  go_ret
  exact ⟨by rw [← hr.out]; rfl, BA.out⟩
set_option maxRecDepth 100000 in
set_option maxHeartbeats 8000000 in
theorem twin_any (x : HearD) (w : World) :
  Calls Tryz.prog 29 #[.agg #[.int .i64 x.o, .int .i64 x.t, .int .i64 x.l]] w fun e w' => ∃ g, e = .returned (.func (.func 45) #[] #[.pointer (some ⟨g, 0, none⟩)]) ∧ HpB w' g (.cells #[.int .i64 x.o, .int .i64 x.t, .int .i64 x.l] 43) ∧ BW w w' := by
 have BA : BW w (w.alloc (.cells #[.int .i64 x.o, .int .i64 x.t, .int .i64 x.l] 43)) := (BW.refl w).alloc
 have X := HpB.new w (.cells #[.int .i64 x.o, .int .i64 x.t, .int .i64 x.l] 43)
 replace BA := Lib.hid BA
 replace X := Lib.hid X
 go_enter Tryz.func29, Tryz.ntmps29
 go_wp2_with fail
 go_ret
 exact ⟨_, rfl, X.out, BA.out⟩
def GreatR (W : List WishD) (nW nH : Nat) (e : Ending) : Prop := ∃ b : Bool, e = .returned (.bool b) ∧ (b = false → (∀ i, i < nW → (wi W i).s.length ≤ 40) ∧ nW ≤ 40 ∧ nH ≤ 40)
set_option maxRecDepth 100000 in
set_option maxHeartbeats 8000000 in
theorem great48_any (cs : Array Value) (d : OffD) (sW : Option Addr) (cW : Nat) (sH : Option Addr) (cH : Nat) (w : World) (h : OffV w cs d sW cW sH cH) :
  Calls Tryz.prog 6 #[.agg cs] w fun e w' => GreatR d.W d.W.length d.H.length e ∧ BW w w' := by
 obtain ⟨rfl, hw, hh⟩ := h
 obtain ⟨seat, W, H⟩ := d
 unfold offC
 dsimp only at hw hh ⊢
 obtain ⟨_, _, he, hWc, hWm⟩ := hw.len
 cases he
 obtain ⟨_, _, he, hHc, hHm⟩ := hh.len
 cases he
 unfold maxLen at hWm hHm
 obtain ⟨nW, hnW⟩ : ∃ n, W.length = n := ⟨_, rfl⟩
 obtain ⟨nH, hnH⟩ : ∃ n, H.length = n := ⟨_, rfl⟩
 rw [hnW] at hw hWc ⊢
 rw [hnH] at hh hHc ⊢
 have BA : BW w (w.alloc (.cells #[.int .i64 seat, .slice sW nW cW, .slice sH nH cH] 25)) := (BW.refl w).alloc
 have X := Lib.hid (HpB.new w (.cells #[.int .i64 seat, .slice sW nW cW, .slice sH nH cH] 25))
 replace hw := Lib.hid (hw.bw BA)
 replace hnW := Lib.hid hnW
 replace hnH := Lib.hid hnH
 replace BA := Lib.hid BA
 clear hh
 go_enter Tryz.func6, Tryz.ntmps6
 go_upto_region 2 with (fail)
 generalize w.alloc _ = w1 at *
 generalize w.heap.size = g at *
 have z1 := (hp_cell X.out 1).trans (show _ = some (.slice sW nW cW) from rfl)
 have z2 := (hp_cell X.out 2).trans (show _ = some (.slice sH nH cH) from rfl)
 go_loopg [3] nW (fun m' i wx => ∃ k : Nat, m' = nW - k ∧ k ≤ nW ∧ i = .int .i64 (k : Nat) ∧ Hid (∀ i, i < k → (wi W i).s.length ≤ 40) ∧ w1 = wx)
 case atStart => exact ⟨0, by omega, by omega, rfl, Lib.hid (fun i hi => absurd hi (Nat.not_lt_zero _)), rfl⟩
 case round =>
  obtain ⟨k, rfl, hk, rfl, hA, rfl⟩ := hrel
  by_cases hkn : k < nW
  ·have dk : decide ((k : Int) < (nW : Int)) = true := by simp; omega
   obtain ⟨gw, ow, rfl, -, hc⟩ := wi_form hw.out (by omega)
   obtain ⟨s, m, cp, -, -, y2, hs⟩ := hc k (by rw [hnW.out]; exact hkn)
   have hsl : (wi W k).s.length = m := by rw [wi_get (by rw [hnW.out]; exact hkn)]; exact hs.1
   obtain ⟨_, _, he, hmc, hmm⟩ := hs.len
   cases he
   unfold maxLen at hmm
   clear hc hs
   by_cases hm : (40 : Int) < (m : Int)
   ·have dm : decide ((40 : Int) < (m : Int)) = true := decide_eq_true hm
    replace hsl := Lib.hid hsl
    go_wp2_with fail
    go_ret
    exact ⟨⟨_, rfl, fun e => by cases e⟩, BA.out⟩
   ·have dm : decide ((40 : Int) < (m : Int)) = false := decide_eq_false hm
    have hA2 : Hid (∀ i, i < k + 1 → (wi W i).s.length ≤ 40) := Lib.hid (fun i hi => by
     by_cases e : i < k
     ·exact hA.out i e
     ·obtain rfl : i = k := by omega
      omega)
    replace hsl := Lib.hid hsl
    go_wp2_with fail
    go_roundg (nW - (k + 1))
    case measure => omega
    case rel => exact ⟨k + 1, rfl, by omega, by push_cast; rfl, hA2, rfl⟩
  ·obtain rfl : k = nW := by omega
   have dk : decide ((k : Int) < (k : Int)) = false := by simp
   cases d1 : decide ((40 : Int) < (k : Int)) with
   | true =>
    go_wp2_with fail
    go_ret
    exact ⟨⟨_, rfl, fun e => by cases e⟩, BA.out⟩
   | false =>
    have h1 := of_decide_eq_false d1
    cases d2 : decide ((40 : Int) < (nH : Int)) with
    | true =>
     go_wp2_with fail
     go_ret
     exact ⟨⟨_, rfl, fun e => by cases e⟩, BA.out⟩
    | false =>
     have h2 := of_decide_eq_false d2
     replace h1 := Lib.hid h1
     replace h2 := Lib.hid h2
     go_wp2_with fail
     go_ret
     exact ⟨⟨_, rfl, fun _ => ⟨hA.out, by have := h1.out; omega, by have := h2.out; omega⟩⟩, BA.out⟩
end Go.Proofs.YtafhnlnhflehhaaGreatDoor
