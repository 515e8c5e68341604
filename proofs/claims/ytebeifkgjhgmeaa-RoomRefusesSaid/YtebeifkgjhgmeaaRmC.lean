/- Is there a subscription for which a function tells true; which is the first (printed by wip/gen/genRmC.py). No condition but the sizes'. -/
import Derived.Test.YtebeifkgjhgmeaaRmB
namespace Go.Proofs.Ytebeifkgjhgmeaa
open Go.RowKit
def firstN (p : Sbs → Bool) : List Sbs → Nat
 | [] => 0
 | x :: l => if p x then 0 else firstN p l + 1
theorem firstN_cons (p : Sbs → Bool) (x : Sbs) (l : List Sbs) : firstN p (x :: l) = if p x then 0 else firstN p l + 1 := rfl
theorem firstN_any (p : Sbs → Bool) : ∀ l : List Sbs, l.any p = decide (firstN p l < l.length)
 | [] => rfl
 | x :: l => by
  rw [firstN_cons]
  have := firstN_any p l
  cases h : p x with
  | true => simp [h]
  | false => simp [h, this]
theorem firstN_drop (p : Sbs → Bool) : ∀ (k : Nat) (l : List Sbs), (∀ x ∈ l.take k, p x = false) → firstN p l = min k l.length + firstN p (l.drop k)
 | 0, l, _ => by simp
 | k + 1, [], _ => by simp [firstN]
 | k + 1, x :: l, h => by
  have h1 := h x (by simp)
  have h2 := firstN_drop p k l (fun y hy => h y (by simp [hy]))
  rw [firstN_cons, h1]
  simp only [Bool.false_eq_true, if_false, List.length_cons, List.drop_succ_cons]
  rw [h2]
  omega
def idxN (p : Sbs → Bool) (l : List Sbs) : Int := if firstN p l < l.length then (firstN p l : Nat) else -1
theorem sb_form {T : TypeId} {w : World} {base : Nat} {sv : Option Addr} {n cap : Nat} {L : List Sbs} (h : EQ ESb T w base (.slice sv n cap) n L) (h0 : 0 < n) :
  ∃ g o, sv = some ⟨g, o, none⟩ ∧ g < w.heap.size ∧ ∀ i (_ : i < L.length), ∀ j, j < 4 → w.cell? ⟨g, o + i * 4 + j, none⟩ = (sbA L[i])[j]? := by
 obtain ⟨g, o, cap', hsl, _, hlt, _, _, hce⟩ := h.form h0
 simp only [Value.slice.injEq] at hsl
 refine ⟨g, o, hsl.1, hlt, fun i hi j hj => ?_⟩
 obtain ⟨c, hc, hcc⟩ := hce i hi
 have hc' : c = subV L[i] := hc
 have z0 := hcc j (by show j < 4; exact hj)
 have e2 : ESb.size = 4 := rfl
 rw [hc', e2, ← Nat.add_assoc] at z0
 rw [z0]
 unfold sbA subV
 simp
def AskC (F : FuncId) (caps : List Value) (p : Sbs → Bool) (L : List Sbs) (w : World) : Prop :=
 ∀ (x : Sbs) (_ : x ∈ L) (wx : World), BW w wx → Calls Try.prog F (.agg (sbA x) :: caps).toArray wx fun e w' => e = .returned (.bool (p x)) ∧ BW wx w'
set_option maxRecDepth 100000 in
set_option maxHeartbeats 8000000 in
theorem sidxC (base n : Nat) (v : Value) (L : List Sbs) (F : FuncId) (caps : List Value) (p : Sbs → Bool) (w : World) (h : EQ ESb 50 w base v n L) (hn : n ≤ 1000000) (hF : AskC F caps p L w) (hN : ∀ (args : Array Value) (w : World), (callFunc F args).run Try.prog w = .ok (.enter F args) w) :
  Calls Try.prog 38 #[v, .func (.func F) #[] caps.toArray] w fun e w' => e = .returned (.int .i64 (idxN p L)) ∧ BW w w' := by
 obtain ⟨sa, cap, rfl, hnc, hcm⟩ := h.len
 unfold maxLen at hcm
 have hH := Lib.hid h
 have hdl := Lib.hid h.1
 have hFF := Lib.hid hF
 clear h hF
 have hA : ∀ x ∈ L.take 0, p x = false := fun x hx => by simp at hx
 obtain ⟨R, hR⟩ : ∃ R, idxN p L = R := ⟨_, rfl⟩
 rw [hR]
 replace hA := Lib.hid hA
 replace hR := Lib.hid hR
 go_enter Try.func38, Try.ntmps38
 go_upto_region 2 with (fail)
 go_loopg [8] n (fun m' i wx => ∃ k : Nat, m' = n - k ∧ k ≤ n ∧ i = .int .i64 (k : Nat) ∧ Hid (∀ x ∈ L.take k, p x = false) ∧ Hid (BW w wx))
 case atStart => exact ⟨0, by omega, by omega, rfl, hA, BW.refl _⟩
 case round =>
  clear hA
  obtain ⟨k, rfl, hk, rfl, hA, B⟩ := hrel
  by_cases hkn : k < n
  ·have d : decide ((k : Int) < (n : Int)) = true := by simp; omega
   have hkD : k < L.length := by rw [hdl.out]; exact hkn
   obtain ⟨g, o, rfl, -, hc⟩ := sb_form (hH.out.bw B.out) (by omega)
   have z0 := (hc k hkD 0 (by decide)).trans (show _ = some (.int .i64 L[k].o) from rfl)
   have z1 := (hc k hkD 1 (by decide)).trans (show _ = some (.int .i64 L[k].t) from rfl)
   have z2 := (hc k hkD 2 (by decide)).trans (show _ = some (.int .i64 L[k].l) from rfl)
   have z3 := (hc k hkD 3 (by decide)).trans (show _ = some (.int .u32 (L[k].s : Nat)) from rfl)
   rw [Nat.add_zero] at z0
   have hfd := firstN_drop p k L hA.out
   rw [List.drop_eq_getElem_cons hkD] at hfd
   have htk : L.take (k + 1) = L.take k ++ [L[k]] := List.take_succ_eq_append_getElem hkD
   have cF := hFF.out L[k] (List.getElem_mem _) wr B.out
   generalize L[k] = x at *
   unfold sbA at cF
   clear hc
   replace cF := Lib.hid cF
   replace hfd := Lib.hid hfd
   replace htk := Lib.hid htk
   go_wp2_with fail
   refine Calls.mono cF.out ?_
   rintro e w2 ⟨rfl, hb⟩
   have B2 := Lib.hid (B.out.trans hb)
   clear cF z0 z1 z2 z3 hb B
   dsimp only
   cases hq : p x with
   | true =>
    have hRk : R = (k : Nat) := by
     have h1 := hfd.out
     rw [firstN_cons, hq] at h1
     simp only [if_true, Nat.add_zero] at h1
     rw [← hR.out]
     unfold idxN
     rw [h1, if_pos (by omega), Nat.min_eq_left (by omega)]
    replace hq := Lib.hid hq
    replace hRk := Lib.hid hRk
    go_wp2_with fail
    go_ret
    exact ⟨by rw [hRk.out]; rfl, B2.out⟩
   | false =>
    have hA2 : ∀ x ∈ L.take (k + 1), p x = false := fun y hy => by
     rw [htk.out] at hy
     rcases List.mem_append.1 hy with hy | hy
     ·exact hA.out y hy
     ·have e : y = x := by simpa using hy
      rw [e]; exact hq
    replace hA2 := Lib.hid hA2
    replace hq := Lib.hid hq
    go_wp2_with fail
    go_roundg (n - (k + 1))
    case measure => omega
    case rel => exact ⟨k + 1, rfl, by omega, by push_cast; rfl, hA2, B2⟩
  ·obtain rfl : k = n := by omega
   have d : decide ((k : Int) < (k : Int)) = false := by simp
   have hRk : R = -1 := by
    have h1 := firstN_drop p k L hA.out
    rw [List.drop_of_length_le (by rw [hdl.out]; exact Nat.le_refl _)] at h1
    have h2 := hdl.out
    simp only [firstN] at h1
    rw [← hR.out]
    unfold idxN
    exact if_neg (by omega)
   replace hRk := Lib.hid hRk
   go_wp2_with fail
   go_ret
   exact ⟨by rw [hRk.out]; rfl, B.out⟩
theorem idxN_anyC (p : Sbs → Bool) (L : List Sbs) : decide (0 ≤ idxN p L) = L.any p := by
 rw [firstN_any]
 unfold idxN
 split
 ·rename_i h; rw [decide_eq_true h]; exact decide_eq_true (by omega)
 ·rename_i h; rw [decide_eq_false h]; exact decide_eq_false (by omega)
set_option maxRecDepth 100000 in
set_option maxHeartbeats 8000000 in
theorem shasC (base n : Nat) (v : Value) (L : List Sbs) (F : FuncId) (caps : List Value) (p : Sbs → Bool) (w : World) (h : EQ ESb 50 w base v n L) (hn : n ≤ 1000000) (hF : AskC F caps p L w) (hN : ∀ (args : Array Value) (w : World), (callFunc F args).run Try.prog w = .ok (.enter F args) w) :
  Calls Try.prog 34 #[v, .func (.func F) #[] caps.toArray] w fun e w' => e = .returned (.bool (L.any p)) ∧ BW w w' := by
 have c := sidxC base n v L F caps p w h hn hF hN
 obtain ⟨sa, cap, rfl, hnc, hcm⟩ := h.len
 have hr := idxN_anyC p L
 generalize idxN p L = r at *
 generalize L.any p = b at *
 clear h hF hN
 replace c := Lib.hid c
 go_enter Try.func34, Try.ntmps34
 go_wp2_with fail
 refine Calls.mono c.out ?_
 rintro e w2 ⟨rfl, hb⟩
 replace hb := Lib.hid hb
 dsimp only
 go_wp2_with fail
 go_ret
 exact ⟨rfl, hb.out⟩
def AskM (F : FuncId) (gs : Nat) (p : Sbs → Bool) (L : List Sbs) (w : World) : Prop :=
 ∀ (x : Sbs) (_ : x ∈ L) (wx : World), BW w wx → Calls Try.prog F #[.pointer (some ⟨gs, 0, none⟩), .agg (sbA x)] wx fun e w' => e = .returned (.bool (p x)) ∧ BW wx w'
set_option maxRecDepth 100000 in
set_option maxHeartbeats 8000000 in
theorem sidxM (base n : Nat) (v : Value) (L : List Sbs) (F : FuncId) (gs : Nat) (p : Sbs → Bool) (w : World) (h : EQ ESb 50 w base v n L) (hn : n ≤ 1000000) (hF : AskM F gs p L w) (hN : ∀ (args : Array Value) (w : World), (callFunc F args).run Try.prog w = .ok (.enter F args) w) :
  Calls Try.prog 38 #[v, .func (.func F) #[.pointer (some ⟨gs, 0, none⟩)] #[]] w fun e w' => e = .returned (.int .i64 (idxN p L)) ∧ BW w w' := by
 obtain ⟨sa, cap, rfl, hnc, hcm⟩ := h.len
 unfold maxLen at hcm
 have hH := Lib.hid h
 have hdl := Lib.hid h.1
 have hFF := Lib.hid hF
 clear h hF
 have hA : ∀ x ∈ L.take 0, p x = false := fun x hx => by simp at hx
 obtain ⟨R, hR⟩ : ∃ R, idxN p L = R := ⟨_, rfl⟩
 rw [hR]
 replace hA := Lib.hid hA
 replace hR := Lib.hid hR
 go_enter Try.func38, Try.ntmps38
 go_upto_region 2 with (fail)
 go_loopg [8] n (fun m' i wx => ∃ k : Nat, m' = n - k ∧ k ≤ n ∧ i = .int .i64 (k : Nat) ∧ Hid (∀ x ∈ L.take k, p x = false) ∧ Hid (BW w wx))
 case atStart => exact ⟨0, by omega, by omega, rfl, hA, BW.refl _⟩
 case round =>
  clear hA
  obtain ⟨k, rfl, hk, rfl, hA, B⟩ := hrel
  by_cases hkn : k < n
  ·have d : decide ((k : Int) < (n : Int)) = true := by simp; omega
   have hkD : k < L.length := by rw [hdl.out]; exact hkn
   obtain ⟨g, o, rfl, -, hc⟩ := sb_form (hH.out.bw B.out) (by omega)
   have z0 := (hc k hkD 0 (by decide)).trans (show _ = some (.int .i64 L[k].o) from rfl)
   have z1 := (hc k hkD 1 (by decide)).trans (show _ = some (.int .i64 L[k].t) from rfl)
   have z2 := (hc k hkD 2 (by decide)).trans (show _ = some (.int .i64 L[k].l) from rfl)
   have z3 := (hc k hkD 3 (by decide)).trans (show _ = some (.int .u32 (L[k].s : Nat)) from rfl)
   rw [Nat.add_zero] at z0
   have hfd := firstN_drop p k L hA.out
   rw [List.drop_eq_getElem_cons hkD] at hfd
   have htk : L.take (k + 1) = L.take k ++ [L[k]] := List.take_succ_eq_append_getElem hkD
   have cF := hFF.out L[k] (List.getElem_mem _) wr B.out
   generalize L[k] = x at *
   unfold sbA at cF
   clear hc
   replace cF := Lib.hid cF
   replace hfd := Lib.hid hfd
   replace htk := Lib.hid htk
   go_wp2_with fail
   refine Calls.mono cF.out ?_
   rintro e w2 ⟨rfl, hb⟩
   have B2 := Lib.hid (B.out.trans hb)
   clear cF z0 z1 z2 z3 hb B
   dsimp only
   cases hq : p x with
   | true =>
    have hRk : R = (k : Nat) := by
     have h1 := hfd.out
     rw [firstN_cons, hq] at h1
     simp only [if_true, Nat.add_zero] at h1
     rw [← hR.out]
     unfold idxN
     rw [h1, if_pos (by omega), Nat.min_eq_left (by omega)]
    replace hq := Lib.hid hq
    replace hRk := Lib.hid hRk
    go_wp2_with fail
    go_ret
    exact ⟨by rw [hRk.out]; rfl, B2.out⟩
   | false =>
    have hA2 : ∀ x ∈ L.take (k + 1), p x = false := fun y hy => by
     rw [htk.out] at hy
     rcases List.mem_append.1 hy with hy | hy
     ·exact hA.out y hy
     ·have e : y = x := by simpa using hy
      rw [e]; exact hq
    replace hA2 := Lib.hid hA2
    replace hq := Lib.hid hq
    go_wp2_with fail
    go_roundg (n - (k + 1))
    case measure => omega
    case rel => exact ⟨k + 1, rfl, by omega, by push_cast; rfl, hA2, B2⟩
  ·obtain rfl : k = n := by omega
   have d : decide ((k : Int) < (k : Int)) = false := by simp
   have hRk : R = -1 := by
    have h1 := firstN_drop p k L hA.out
    rw [List.drop_of_length_le (by rw [hdl.out]; exact Nat.le_refl _)] at h1
    have h2 := hdl.out
    simp only [firstN] at h1
    rw [← hR.out]
    unfold idxN
    exact if_neg (by omega)
   replace hRk := Lib.hid hRk
   go_wp2_with fail
   go_ret
   exact ⟨by rw [hRk.out]; rfl, B.out⟩
theorem idxN_anyM (p : Sbs → Bool) (L : List Sbs) : decide (0 ≤ idxN p L) = L.any p := by
 rw [firstN_any]
 unfold idxN
 split
 ·rename_i h; rw [decide_eq_true h]; exact decide_eq_true (by omega)
 ·rename_i h; rw [decide_eq_false h]; exact decide_eq_false (by omega)
set_option maxRecDepth 100000 in
set_option maxHeartbeats 8000000 in
theorem shasM (base n : Nat) (v : Value) (L : List Sbs) (F : FuncId) (gs : Nat) (p : Sbs → Bool) (w : World) (h : EQ ESb 50 w base v n L) (hn : n ≤ 1000000) (hF : AskM F gs p L w) (hN : ∀ (args : Array Value) (w : World), (callFunc F args).run Try.prog w = .ok (.enter F args) w) :
  Calls Try.prog 34 #[v, .func (.func F) #[.pointer (some ⟨gs, 0, none⟩)] #[]] w fun e w' => e = .returned (.bool (L.any p)) ∧ BW w w' := by
 have c := sidxM base n v L F gs p w h hn hF hN
 obtain ⟨sa, cap, rfl, hnc, hcm⟩ := h.len
 have hr := idxN_anyM p L
 generalize idxN p L = r at *
 generalize L.any p = b at *
 clear h hF hN
 replace c := Lib.hid c
 go_enter Try.func34, Try.ntmps34
 go_wp2_with fail
 refine Calls.mono c.out ?_
 rintro e w2 ⟨rfl, hb⟩
 replace hb := Lib.hid hb
 dsimp only
 go_wp2_with fail
 go_ret
 exact ⟨rfl, hb.out⟩
end Go.Proofs.Ytebeifkgjhgmeaa
