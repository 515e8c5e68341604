/- Is there an element for which a function tells true: ints, numbers of 32 bits, hears (printed by wip/gen/genOfB.py). No condition but the sizes'. -/
import Derived.Test.YtafhnlnhflehhaaDoorOfA
import Derived.Lib.Hide
namespace Go.Proofs.YtafhnlnhflehhaaDoor
open Go.RowKit
def firstA {α : Type} (p : α → Bool) : List α → Nat
 | [] => 0
 | x :: l => if p x then 0 else firstA p l + 1
theorem firstA_cons {α : Type} (p : α → Bool) (x : α) (l : List α) : firstA p (x :: l) = if p x then 0 else firstA p l + 1 := rfl
theorem firstA_any {α : Type} (p : α → Bool) : ∀ l : List α, l.any p = decide (firstA p l < l.length)
 | [] => rfl
 | x :: l => by
  rw [firstA_cons]
  have := firstA_any p l
  cases h : p x with
  | true => simp [h]
  | false => simp [h, this]
theorem firstA_drop {α : Type} (p : α → Bool) : ∀ (k : Nat) (l : List α), (∀ x ∈ l.take k, p x = false) → firstA p l = min k l.length + firstA p (l.drop k)
 | 0, l, _ => by simp
 | k + 1, [], _ => by simp [firstA]
 | k + 1, x :: l, h => by
  have h1 := h x (by simp)
  have h2 := firstA_drop p k l (fun y hy => h y (by simp [hy]))
  rw [firstA_cons, h1]
  simp only [Bool.false_eq_true, if_false, List.length_cons, List.drop_succ_cons]
  rw [h2]
  omega
def idxA {α : Type} (p : α → Bool) (l : List α) : Int := if firstA p l < l.length then (firstA p l : Nat) else -1
theorem idxA_any {α : Type} (p : α → Bool) (L : List α) : decide (0 ≤ idxA p L) = L.any p := by
 rw [firstA_any]
 unfold idxA
 by_cases h : firstA p L < L.length
 ·rw [if_pos h]; simp [h]
 ·rw [if_neg h]; simp [h]
theorem formI {w : World} {base : Nat} {sv : Option Addr} {n cap : Nat} {L : List Int} (h : SQ I1 w base (.slice sv n cap) n L) (h0 : 0 < n) :
  ∃ g o, sv = some ⟨g, o, none⟩ ∧ g < w.heap.size ∧ ∀ i (_ : i < L.length), ∀ j, j < 1 → w.cell? ⟨g, o + i * 1 + j, none⟩ = ((fun x : Int => ([.int .i64 x] : List Value)) L[i])[j]? := by
 obtain ⟨g, o, cap', hsl, hlt, _, _, hce⟩ := h.form h0
 simp only [Value.slice.injEq] at hsl
 refine ⟨g, o, hsl.1, hlt, fun i hi j hj => ?_⟩
 obtain ⟨c, hc, hcc⟩ := hce i hi
 have hc' : c = (fun x : Int => ([.int .i64 x] : List Value)) L[i] := hc
 have z0 := hcc j (by show j < 1; exact hj)
 have e2 : I1.size = 1 := rfl
 rw [hc', e2, ← Nat.add_assoc] at z0
 exact z0
def AskI (F : FuncId) (caps : List Value) (p : Int → Bool) (L : List Int) (w : World) : Prop :=
 ∀ (x : Int) (_ : x ∈ L) (wx : World), BW w wx → Calls Tryd.prog F (.int .i64 x :: caps).toArray wx fun e w' => e = .returned (.bool (p x)) ∧ BW wx w'
set_option maxRecDepth 100000 in
set_option maxHeartbeats 8000000 in
theorem idxI (base n : Nat) (v : Value) (L : List Int) (F : FuncId) (caps : List Value) (p : Int → Bool) (w : World) (h : SQ I1 w base v n L) (hn : n ≤ 1000000) (hF : AskI F caps p L w) (hN : ∀ (args : Array Value) (w : World), (callFunc F args).run Tryd.prog w = .ok (.enter F args) w) :
  Calls Tryd.prog 48 #[v, .func (.func F) #[] caps.toArray] w fun e w' => e = .returned (.int .i64 (idxA p L)) ∧ BW w w' := by
 obtain ⟨sa, cap, rfl, hnc, hcm⟩ := h.len
 unfold maxLen at hcm
 have hH := Lib.hid h
 have hdl := Lib.hid h.1
 have hFF := Lib.hid hF
 clear h hF
 have hA : ∀ x ∈ L.take 0, p x = false := fun x hx => by simp at hx
 obtain ⟨R, hR⟩ : ∃ R, idxA p L = R := ⟨_, rfl⟩
 rw [hR]
 replace hA := Lib.hid hA
 replace hR := Lib.hid hR
 go_enter Tryd.func48, Tryd.ntmps48
 go_upto_region 2 with (fail)
 go_loopg [8] n (fun m' i wx => ∃ k : Nat, m' = n - k ∧ k ≤ n ∧ i = .int .i64 (k : Nat) ∧ Hid (∀ x ∈ L.take k, p x = false) ∧ Hid (BW w wx))
 case atStart => exact ⟨0, by omega, by omega, rfl, hA, BW.refl _⟩
 case round =>
  clear hA
  obtain ⟨k, rfl, hk, rfl, hA, B⟩ := hrel
  by_cases hkn : k < n
  ·have d : decide ((k : Int) < (n : Int)) = true := by simp; omega
   have hkD : k < L.length := by rw [hdl.out]; exact hkn
   obtain ⟨g, o, rfl, -, hc⟩ := formI (hH.out.bw B.out) (by omega)
   have z0 := (hc k hkD 0 (by decide)).trans (show _ = some (.int .i64 L[k]) from rfl)
   rw [Nat.add_zero] at z0
   try rw [Nat.mul_one] at z0
   have hfd := firstA_drop p k L hA.out
   rw [List.drop_eq_getElem_cons hkD] at hfd
   have htk : L.take (k + 1) = L.take k ++ [L[k]] := List.take_succ_eq_append_getElem hkD
   have cF := hFF.out L[k] (List.getElem_mem _) wr B.out
   generalize L[k] = x at *
   clear hc
   replace cF := Lib.hid cF
   replace hfd := Lib.hid hfd
   replace htk := Lib.hid htk
   go_wp2_with fail
   refine Calls.mono cF.out ?_
   rintro e w2 ⟨rfl, hb⟩
   have B2 := Lib.hid (B.out.trans hb)
   clear cF z0 hb B
   dsimp only
   cases hq : p x with
   | true =>
    have hRk : R = (k : Nat) := by
     have h1 := hfd.out
     rw [firstA_cons, hq] at h1
     simp only [if_true, Nat.add_zero] at h1
     rw [← hR.out]
     unfold idxA
     rw [h1, if_pos (by omega), Nat.min_eq_left (by omega)]
    replace hq := Lib.hid hq
    replace hRk := Lib.hid hRk
    go_wp2_with fail
    go_ret
    exact ⟨by rw [hRk.out]; rfl, B2.out⟩
   | false =>
    have hA2 : ∀ x ∈ L.take (k + 1), p x = false := fun y hy => by
     rw [htk.out] at hy
     rcases List.mem_append.1 hy with hy | hy
     ·exact hA.out y hy
     ·have e : y = x := by simpa using hy
      rw [e]; exact hq
    replace hA2 := Lib.hid hA2
    replace hq := Lib.hid hq
    go_wp2_with fail
    go_roundg (n - (k + 1))
    case measure => omega
    case rel => exact ⟨k + 1, rfl, by omega, by push_cast; rfl, hA2, B2⟩
  ·obtain rfl : k = n := by omega
   have d : decide ((k : Int) < (k : Int)) = false := by simp
   have hRk : R = -1 := by
    have h1 := firstA_drop p k L hA.out
    rw [List.drop_of_length_le (by rw [hdl.out]; exact Nat.le_refl _)] at h1
    have h2 := hdl.out
    simp only [firstA] at h1
    rw [← hR.out]
    unfold idxA
    exact if_neg (by omega)
   replace hRk := Lib.hid hRk
   go_wp2_with fail
   go_ret
   exact ⟨by rw [hRk.out]; rfl, B.out⟩
set_option maxRecDepth 100000 in
set_option maxHeartbeats 8000000 in
theorem hasI (base n : Nat) (v : Value) (L : List Int) (F : FuncId) (caps : List Value) (p : Int → Bool) (w : World) (h : SQ I1 w base v n L) (hn : n ≤ 1000000) (hF : AskI F caps p L w) (hN : ∀ (args : Array Value) (w : World), (callFunc F args).run Tryd.prog w = .ok (.enter F args) w) :
  Calls Tryd.prog 33 #[v, .func (.func F) #[] caps.toArray] w fun e w' => e = .returned (.bool (L.any p)) ∧ BW w w' := by
 have cI := Lib.hid (idxI base n v L F caps p w h hn hF hN)
 have hd := idxA_any p L
 obtain ⟨_, _, rfl, _, _⟩ := h.len
 clear h hF hN
 generalize idxA p L = R at *
 generalize L.any p = bb at *
 go_enter Tryd.func33, Tryd.ntmps33
 go_wp2_with fail
 refine Calls.mono cI.out ?_
 rintro e w2 ⟨rfl, hb⟩
 replace hb := Lib.hid hb
 dsimp only
 go_wp2_with fail
 go_ret
 exact ⟨rfl, hb.out⟩
theorem formU {w : World} {base : Nat} {sv : Option Addr} {n cap : Nat} {L : List Nat} (h : SQ EU4 w base (.slice sv n cap) n L) (h0 : 0 < n) :
  ∃ g o, sv = some ⟨g, o, none⟩ ∧ g < w.heap.size ∧ ∀ i (_ : i < L.length), ∀ j, j < 1 → w.cell? ⟨g, o + i * 1 + j, none⟩ = ((fun x : Nat => ([.int .u32 (x : Nat)] : List Value)) L[i])[j]? := by
 obtain ⟨g, o, cap', hsl, hlt, _, _, hce⟩ := h.form h0
 simp only [Value.slice.injEq] at hsl
 refine ⟨g, o, hsl.1, hlt, fun i hi j hj => ?_⟩
 obtain ⟨c, hc, hcc⟩ := hce i hi
 have hc' : c = (fun x : Nat => ([.int .u32 (x : Nat)] : List Value)) L[i] := hc
 have z0 := hcc j (by show j < 1; exact hj)
 have e2 : EU4.size = 1 := rfl
 rw [hc', e2, ← Nat.add_assoc] at z0
 exact z0
def AskU (F : FuncId) (caps : List Value) (p : Nat → Bool) (L : List Nat) (w : World) : Prop :=
 ∀ (x : Nat) (_ : x ∈ L) (wx : World), BW w wx → Calls Tryd.prog F (.int .u32 (x : Nat) :: caps).toArray wx fun e w' => e = .returned (.bool (p x)) ∧ BW wx w'
set_option maxRecDepth 100000 in
set_option maxHeartbeats 8000000 in
theorem idxU (base n : Nat) (v : Value) (L : List Nat) (F : FuncId) (caps : List Value) (p : Nat → Bool) (w : World) (h : SQ EU4 w base v n L) (hn : n ≤ 1000000) (hF : AskU F caps p L w) (hN : ∀ (args : Array Value) (w : World), (callFunc F args).run Tryd.prog w = .ok (.enter F args) w) :
  Calls Tryd.prog 51 #[v, .func (.func F) #[] caps.toArray] w fun e w' => e = .returned (.int .i64 (idxA p L)) ∧ BW w w' := by
 obtain ⟨sa, cap, rfl, hnc, hcm⟩ := h.len
 unfold maxLen at hcm
 have hH := Lib.hid h
 have hdl := Lib.hid h.1
 have hFF := Lib.hid hF
 clear h hF
 have hA : ∀ x ∈ L.take 0, p x = false := fun x hx => by simp at hx
 obtain ⟨R, hR⟩ : ∃ R, idxA p L = R := ⟨_, rfl⟩
 rw [hR]
 replace hA := Lib.hid hA
 replace hR := Lib.hid hR
 go_enter Tryd.func51, Tryd.ntmps51
 go_upto_region 2 with (fail)
 go_loopg [8] n (fun m' i wx => ∃ k : Nat, m' = n - k ∧ k ≤ n ∧ i = .int .i64 (k : Nat) ∧ Hid (∀ x ∈ L.take k, p x = false) ∧ Hid (BW w wx))
 case atStart => exact ⟨0, by omega, by omega, rfl, hA, BW.refl _⟩
 case round =>
  clear hA
  obtain ⟨k, rfl, hk, rfl, hA, B⟩ := hrel
  by_cases hkn : k < n
  ·have d : decide ((k : Int) < (n : Int)) = true := by simp; omega
   have hkD : k < L.length := by rw [hdl.out]; exact hkn
   obtain ⟨g, o, rfl, -, hc⟩ := formU (hH.out.bw B.out) (by omega)
   have z0 := (hc k hkD 0 (by decide)).trans (show _ = some (.int .u32 (L[k] : Nat)) from rfl)
   rw [Nat.add_zero] at z0
   try rw [Nat.mul_one] at z0
   have hfd := firstA_drop p k L hA.out
   rw [List.drop_eq_getElem_cons hkD] at hfd
   have htk : L.take (k + 1) = L.take k ++ [L[k]] := List.take_succ_eq_append_getElem hkD
   have cF := hFF.out L[k] (List.getElem_mem _) wr B.out
   generalize L[k] = x at *
   clear hc
   replace cF := Lib.hid cF
   replace hfd := Lib.hid hfd
   replace htk := Lib.hid htk
   go_wp2_with fail
   refine Calls.mono cF.out ?_
   rintro e w2 ⟨rfl, hb⟩
   have B2 := Lib.hid (B.out.trans hb)
   clear cF z0 hb B
   dsimp only
   cases hq : p x with
   | true =>
    have hRk : R = (k : Nat) := by
     have h1 := hfd.out
     rw [firstA_cons, hq] at h1
     simp only [if_true, Nat.add_zero] at h1
     rw [← hR.out]
     unfold idxA
     rw [h1, if_pos (by omega), Nat.min_eq_left (by omega)]
    replace hq := Lib.hid hq
    replace hRk := Lib.hid hRk
    go_wp2_with fail
    go_ret
    exact ⟨by rw [hRk.out]; rfl, B2.out⟩
   | false =>
    have hA2 : ∀ x ∈ L.take (k + 1), p x = false := fun y hy => by
     rw [htk.out] at hy
     rcases List.mem_append.1 hy with hy | hy
     ·exact hA.out y hy
     ·have e : y = x := by simpa using hy
      rw [e]; exact hq
    replace hA2 := Lib.hid hA2
    replace hq := Lib.hid hq
    go_wp2_with fail
    go_roundg (n - (k + 1))
    case measure => omega
    case rel => exact ⟨k + 1, rfl, by omega, by push_cast; rfl, hA2, B2⟩
  ·obtain rfl : k = n := by omega
   have d : decide ((k : Int) < (k : Int)) = false := by simp
   have hRk : R = -1 := by
    have h1 := firstA_drop p k L hA.out
    rw [List.drop_of_length_le (by rw [hdl.out]; exact Nat.le_refl _)] at h1
    have h2 := hdl.out
    simp only [firstA] at h1
    rw [← hR.out]
    unfold idxA
    exact if_neg (by omega)
   replace hRk := Lib.hid hRk
   go_wp2_with fail
   go_ret
   exact ⟨by rw [hRk.out]; rfl, B.out⟩
set_option maxRecDepth 100000 in
set_option maxHeartbeats 8000000 in
theorem hasU (base n : Nat) (v : Value) (L : List Nat) (F : FuncId) (caps : List Value) (p : Nat → Bool) (w : World) (h : SQ EU4 w base v n L) (hn : n ≤ 1000000) (hF : AskU F caps p L w) (hN : ∀ (args : Array Value) (w : World), (callFunc F args).run Tryd.prog w = .ok (.enter F args) w) :
  Calls Tryd.prog 39 #[v, .func (.func F) #[] caps.toArray] w fun e w' => e = .returned (.bool (L.any p)) ∧ BW w w' := by
 have cI := Lib.hid (idxU base n v L F caps p w h hn hF hN)
 have hd := idxA_any p L
 obtain ⟨_, _, rfl, _, _⟩ := h.len
 clear h hF hN
 generalize idxA p L = R at *
 generalize L.any p = bb at *
 go_enter Tryd.func39, Tryd.ntmps39
 go_wp2_with fail
 refine Calls.mono cI.out ?_
 rintro e w2 ⟨rfl, hb⟩
 replace hb := Lib.hid hb
 dsimp only
 go_wp2_with fail
 go_ret
 exact ⟨rfl, hb.out⟩
theorem formH {w : World} {base : Nat} {sv : Option Addr} {n cap : Nat} {L : List HearD} (h : SQ EHe w base (.slice sv n cap) n L) (h0 : 0 < n) :
  ∃ g o, sv = some ⟨g, o, none⟩ ∧ g < w.heap.size ∧ ∀ i (_ : i < L.length), ∀ j, j < 3 → w.cell? ⟨g, o + i * 3 + j, none⟩ = ((fun x : HearD => ([.int .i64 x.o, .int .i64 x.t, .int .i64 x.l] : List Value)) L[i])[j]? := by
 obtain ⟨g, o, cap', hsl, hlt, _, _, hce⟩ := h.form h0
 simp only [Value.slice.injEq] at hsl
 refine ⟨g, o, hsl.1, hlt, fun i hi j hj => ?_⟩
 obtain ⟨c, hc, hcc⟩ := hce i hi
 have hc' : c = (fun x : HearD => ([.int .i64 x.o, .int .i64 x.t, .int .i64 x.l] : List Value)) L[i] := hc
 have z0 := hcc j (by show j < 3; exact hj)
 have e2 : EHe.size = 3 := rfl
 rw [hc', e2, ← Nat.add_assoc] at z0
 exact z0
def AskH (F : FuncId) (caps : List Value) (p : HearD → Bool) (L : List HearD) (w : World) : Prop :=
 ∀ (x : HearD) (_ : x ∈ L) (wx : World), BW w wx → Calls Tryd.prog F (.agg #[.int .i64 x.o, .int .i64 x.t, .int .i64 x.l] :: caps).toArray wx fun e w' => e = .returned (.bool (p x)) ∧ BW wx w'
set_option maxRecDepth 100000 in
set_option maxHeartbeats 8000000 in
theorem idxH (base n : Nat) (v : Value) (L : List HearD) (F : FuncId) (caps : List Value) (p : HearD → Bool) (w : World) (h : SQ EHe w base v n L) (hn : n ≤ 1000000) (hF : AskH F caps p L w) (hN : ∀ (args : Array Value) (w : World), (callFunc F args).run Tryd.prog w = .ok (.enter F args) w) :
  Calls Tryd.prog 35 #[v, .func (.func F) #[] caps.toArray] w fun e w' => e = .returned (.int .i64 (idxA p L)) ∧ BW w w' := by
 obtain ⟨sa, cap, rfl, hnc, hcm⟩ := h.len
 unfold maxLen at hcm
 have hH := Lib.hid h
 have hdl := Lib.hid h.1
 have hFF := Lib.hid hF
 clear h hF
 have hA : ∀ x ∈ L.take 0, p x = false := fun x hx => by simp at hx
 obtain ⟨R, hR⟩ : ∃ R, idxA p L = R := ⟨_, rfl⟩
 rw [hR]
 replace hA := Lib.hid hA
 replace hR := Lib.hid hR
 go_enter Tryd.func35, Tryd.ntmps35
 go_upto_region 2 with (fail)
 go_loopg [8] n (fun m' i wx => ∃ k : Nat, m' = n - k ∧ k ≤ n ∧ i = .int .i64 (k : Nat) ∧ Hid (∀ x ∈ L.take k, p x = false) ∧ Hid (BW w wx))
 case atStart => exact ⟨0, by omega, by omega, rfl, hA, BW.refl _⟩
 case round =>
  clear hA
  obtain ⟨k, rfl, hk, rfl, hA, B⟩ := hrel
  by_cases hkn : k < n
  ·have d : decide ((k : Int) < (n : Int)) = true := by simp; omega
   have hkD : k < L.length := by rw [hdl.out]; exact hkn
   obtain ⟨g, o, rfl, -, hc⟩ := formH (hH.out.bw B.out) (by omega)
   have z0 := (hc k hkD 0 (by decide)).trans (show _ = some (.int .i64 L[k].o) from rfl)
   have z1 := (hc k hkD 1 (by decide)).trans (show _ = some (.int .i64 L[k].t) from rfl)
   have z2 := (hc k hkD 2 (by decide)).trans (show _ = some (.int .i64 L[k].l) from rfl)
   rw [Nat.add_zero] at z0
   try rw [Nat.mul_one] at z0
   have hfd := firstA_drop p k L hA.out
   rw [List.drop_eq_getElem_cons hkD] at hfd
   have htk : L.take (k + 1) = L.take k ++ [L[k]] := List.take_succ_eq_append_getElem hkD
   have cF := hFF.out L[k] (List.getElem_mem _) wr B.out
   generalize L[k] = x at *
   clear hc
   replace cF := Lib.hid cF
   replace hfd := Lib.hid hfd
   replace htk := Lib.hid htk
   go_wp2_with fail
   refine Calls.mono cF.out ?_
   rintro e w2 ⟨rfl, hb⟩
   have B2 := Lib.hid (B.out.trans hb)
   clear cF z0 z1 z2 hb B
   dsimp only
   cases hq : p x with
   | true =>
    have hRk : R = (k : Nat) := by
     have h1 := hfd.out
     rw [firstA_cons, hq] at h1
     simp only [if_true, Nat.add_zero] at h1
     rw [← hR.out]
     unfold idxA
     rw [h1, if_pos (by omega), Nat.min_eq_left (by omega)]
    replace hq := Lib.hid hq
    replace hRk := Lib.hid hRk
    go_wp2_with fail
    go_ret
    exact ⟨by rw [hRk.out]; rfl, B2.out⟩
   | false =>
    have hA2 : ∀ x ∈ L.take (k + 1), p x = false := fun y hy => by
     rw [htk.out] at hy
     rcases List.mem_append.1 hy with hy | hy
     ·exact hA.out y hy
     ·have e : y = x := by simpa using hy
      rw [e]; exact hq
    replace hA2 := Lib.hid hA2
    replace hq := Lib.hid hq
    go_wp2_with fail
    go_roundg (n - (k + 1))
    case measure => omega
    case rel => exact ⟨k + 1, rfl, by omega, by push_cast; rfl, hA2, B2⟩
  ·obtain rfl : k = n := by omega
   have d : decide ((k : Int) < (k : Int)) = false := by simp
   have hRk : R = -1 := by
    have h1 := firstA_drop p k L hA.out
    rw [List.drop_of_length_le (by rw [hdl.out]; exact Nat.le_refl _)] at h1
    have h2 := hdl.out
    simp only [firstA] at h1
    rw [← hR.out]
    unfold idxA
    exact if_neg (by omega)
   replace hRk := Lib.hid hRk
   go_wp2_with fail
   go_ret
   exact ⟨by rw [hRk.out]; rfl, B.out⟩
set_option maxRecDepth 100000 in
set_option maxHeartbeats 8000000 in
theorem hasH (base n : Nat) (v : Value) (L : List HearD) (F : FuncId) (caps : List Value) (p : HearD → Bool) (w : World) (h : SQ EHe w base v n L) (hn : n ≤ 1000000) (hF : AskH F caps p L w) (hN : ∀ (args : Array Value) (w : World), (callFunc F args).run Tryd.prog w = .ok (.enter F args) w) :
  Calls Tryd.prog 23 #[v, .func (.func F) #[] caps.toArray] w fun e w' => e = .returned (.bool (L.any p)) ∧ BW w w' := by
 have cI := Lib.hid (idxH base n v L F caps p w h hn hF hN)
 have hd := idxA_any p L
 obtain ⟨_, _, rfl, _, _⟩ := h.len
 clear h hF hN
 generalize idxA p L = R at *
 generalize L.any p = bb at *
 go_enter Tryd.func23, Tryd.ntmps23
 go_wp2_with fail
 refine Calls.mono cI.out ?_
 rintro e w2 ⟨rfl, hb⟩
 replace hb := Lib.hid hb
 dsimp only
 go_wp2_with fail
 go_ret
 exact ⟨rfl, hb.out⟩
end Go.Proofs.YtafhnlnhflehhaaDoor
