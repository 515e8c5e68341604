/- The reference's windows in plain words: all indices that were there; they answer as the program's. Nothing of the program; no condition. Elements that are numbers of 64 bits. Nothing of the program; no condition. The reference's windows: High, Fresh, Mark. No condition but the sizes'. Kinds of elements that are plain cells; slices of any kind that are only read. Nothing of the program; no condition. The reference's way beside what the program's windows are: At, High. No condition but the sizes'. -/
import Derived.Test.YtikmhlbpefednaaGreatGS1
import Derived.Test.YtikmhlbpefednaaGreatGEl
import Derived.Test.YtikmhlbpefednaaGreatGS2
import Derived.Test.YtikmhlbpefednaaGreatGBa
namespace Go.Proofs.YtikmhlbpefednaaGreat
open Go.RowKit
def hiR (L : List Nat) : Int := L.foldl (fun h (x : Nat) => if h < (x : Int) then (x : Int) else h) (-1)
def freshR (L : List Nat) (x : Int) : Bool := !(decide (x < 0) || decide (x + 64 ≤ hiR L)) && !(L.any fun y => (y : Int) == x)
theorem hiR_snoc (L : List Nat) (x : Nat) : hiR (L ++ [x]) = if hiR L < (x : Int) then (x : Int) else hiR L := by
 unfold hiR
 rw [List.foldl_append]
 rfl
structure WinI (nx bs : Nat) (L : List Nat) : Prop where
 hi : (nx : Int) - 1 = hiR L
 le : ∀ y ∈ L, y < nx
 bit : ∀ t, t < 64 → bs.testBit t = (decide (t < nx) && decide (nx - 1 - t ∈ L))
theorem WinI.nil : WinI 0 0 [] := ⟨rfl, by simp, by simp⟩
theorem WinI.fresh {nx bs : Nat} {L : List Nat} (h : WinI nx bs L) (i : Int) : wFresh nx bs i = freshR L i := by
 unfold wFresh freshR
 rw [← h.hi]
 by_cases h0 : i < 0
 ·rw [decide_eq_true h0, decide_eq_false (by omega)]; rfl
 obtain ⟨n, rfl⟩ := Int.eq_ofNat_of_zero_le (by omega : 0 ≤ i)
 have hc : (L.any fun y => (y : Int) == (n : Int)) = decide (n ∈ L) := by
  rw [Bool.eq_iff_iff]
  simp only [List.any_eq_true, beq_iff_eq, decide_eq_true_eq]
  constructor
  ·rintro ⟨y, hy, he⟩
   obtain rfl : y = n := by exact_mod_cast he
   exact hy
  ·intro hm; exact ⟨n, hm, rfl⟩
 rw [hc, decide_eq_false h0, decide_eq_true (by omega : (0 : Int) ≤ (n : Int))]
 by_cases h1 : (nx : Int) - 1 - (n : Int) < 0
 ·have hn : n ∉ L := fun hm => by have := h.le n hm; omega
  rw [decide_eq_true h1, decide_eq_false hn, decide_eq_false (by omega : ¬ (n : Int) + 64 ≤ (nx : Int) - 1)]
  rfl
 by_cases h2 : (nx : Int) - 1 - (n : Int) < 64
 ·have e : ((nx : Int) - 1 - (n : Int)).toNat = nx - 1 - n := by omega
  rw [decide_eq_false h1, decide_eq_true h2, decide_eq_false (by omega : ¬ (n : Int) + 64 ≤ (nx : Int) - 1), e, h.bit _ (by omega), decide_eq_true (by omega : nx - 1 - n < nx), show nx - 1 - (nx - 1 - n) = n by omega]
  simp
 ·rw [decide_eq_false h1, decide_eq_false h2, decide_eq_true (by omega : (n : Int) + 64 ≤ (nx : Int) - 1)]
  rfl
theorem WinI.mark {nx bs : Nat} {L : List Nat} (h : WinI nx bs L) (i : Nat) (hf : wFresh nx bs i = true) (hb : bs < 18446744073709551616) : WinI (wMark nx bs i).1 (wMark nx bs i).2 (L ++ [i]) := by
 unfold wFresh at hf
 unfold wMark
 have hh := h.hi
 split
 ·rename_i hlt
  have h64 : nx - 1 - i < 64 := by
   simp only [Bool.and_eq_true, Bool.or_eq_true, decide_eq_true_eq] at hf
   omega
  refine ⟨?_, ?_, ?_⟩
  ·rw [hiR_snoc, if_neg (by omega)]; exact hh
  ·intro y hy
   rcases List.mem_append.1 hy with h1 | h1
   ·exact h.le y h1
   ·obtain rfl : y = i := by simpa using h1
    exact hlt
  ·intro t ht
   rw [Nat.testBit_or, Nat.testBit_two_pow, h.bit t ht]
   by_cases hx : nx - 1 - i = t
   ·rw [decide_eq_true hx, Bool.or_true]
    rw [decide_eq_true (by omega : t < nx), decide_eq_true (by simp; right; omega)]
    rfl
   ·rw [decide_eq_false hx, Bool.or_false]
    by_cases htn : t < nx
    ·rw [decide_eq_true htn, Bool.true_and, Bool.true_and, decide_eq_decide]
     simp
     omega
    ·rw [decide_eq_false htn]; rfl
 ·rename_i hge
  refine ⟨?_, ?_, ?_⟩
  ·rw [hiR_snoc, if_pos (by omega)]; push_cast; omega
  ·intro y hy
   rcases List.mem_append.1 hy with h1 | h1
   ·have := h.le y h1; show y < i + 1; omega
   ·obtain rfl : y = i := by simpa using h1
    show y < y + 1
    omega
  ·intro t ht
   show Nat.testBit (_ ||| 1) t = _
   rw [Nat.testBit_or, show (18446744073709551616 : Nat) = 2 ^ 64 from rfl, Nat.testBit_mod_two_pow, decide_eq_true ht, Bool.true_and, show bs * 2 ^ (i + 1 - nx) = 2 ^ (i + 1 - nx) * bs from Nat.mul_comm _ _, Nat.testBit_two_pow_mul]
   by_cases h0 : t = 0
   ·subst h0
    simp
   have e1 : Nat.testBit 1 t = false := by
    rw [show (1 : Nat) = 2 ^ 0 from rfl, Nat.testBit_two_pow]
    simp; omega
   rw [e1, Bool.or_false]
   by_cases hs : i + 1 - nx ≤ t
   ·rw [decide_eq_true hs, Bool.true_and, h.bit _ (by omega)]
    by_cases htn : t - (i + 1 - nx) < nx
    ·rw [decide_eq_true htn, decide_eq_true (show t < i + 1 by omega), Bool.true_and, Bool.true_and, decide_eq_decide]
     rw [show nx - 1 - (t - (i + 1 - nx)) = i + 1 - 1 - t by omega]
     simp
     omega
    ·rw [decide_eq_false htn, Bool.false_and, decide_eq_false (show ¬ t < i + 1 by omega)]; rfl
   ·rw [decide_eq_false hs, Bool.false_and]
    have hn : i + 1 - 1 - t ∉ L ++ [i] := by
     intro hm
     rcases List.mem_append.1 hm with h1 | h1
     ·have := h.le _ h1; omega
     ·have : i + 1 - 1 - t = i := by simpa using h1
      omega
    rw [decide_eq_false hn, Bool.and_false]
end Go.Proofs.YtikmhlbpefednaaGreat

namespace Go.Proofs.YtikmhlbpefednaaGreat
open Go.RowKit
theorem still_setR (w : World) (g o : Nat) (v : Value) : Still [g] w (w.setCell ⟨g, o, none⟩ v) :=
 ⟨rfl, rfl, rfl, by simp [World.setCell], fun k _ hk => hp_oth (by simpa using hk)⟩
def I1 : Elt Int where
 size := 1
 R := fun _ _ a c => c = [.int .i64 a]
 Ok := fun _ _ => True
 pos := by decide
 len := fun e => by rw [e]; rfl
 one := fun e u hu => by rw [e] at hu; simp at hu; rw [hu]; rfl
 bw := fun e _ => e
 up := fun e _ => e
 still := fun e _ _ => e
 old := fun e _ _ => e
theorem slI64 : SlTy Tryz.prog 107 2 1 8 := SlTy.mk' Tryz.underlying107 (by kernel_rfl) (by decide)
theorem i1_form {T : TypeId} {w : World} {base : Nat} {sv : Option Addr} {n cap : Nat} {L : List Int} (h : EQ I1 T w base (.slice sv n cap) n L) (h0 : 0 < n) :
  ∃ g o, sv = some ⟨g, o, none⟩ ∧ ∀ i (hi : i < L.length), w.cell? ⟨g, o + i, none⟩ = some (.int .i64 L[i]) := by
 obtain ⟨g, o, cap', hsl, _, _, _, _, hce⟩ := h.form h0
 simp only [Value.slice.injEq] at hsl
 refine ⟨g, o, hsl.1, fun i hi => ?_⟩
 obtain ⟨c, hc, hcc⟩ := hce i hi
 have hc' : c = [.int .i64 L[i]] := hc
 have z0 := hcc 0 (by decide)
 have e2 : I1.size = 1 := rfl
 rw [hc', e2, Nat.mul_one] at z0
 exact z0
end Go.Proofs.YtikmhlbpefednaaGreat

namespace Go.Proofs.YtikmhlbpefednaaGreat
open Go.RowKit
theorem hiR_take (L : List Nat) (i : Nat) (h : i < L.length) : hiR (L.take (i + 1)) = if hiR (L.take i) < ((L.getD i 0 : Nat) : Int) then ((L.getD i 0 : Nat) : Int) else hiR (L.take i) := by
 rw [← hiR_snoc]
 congr 1
 rw [List.getD_eq_getElem?_getD, List.getElem?_eq_getElem h, Option.getD_some, List.take_add_one, List.getElem?_eq_getElem h]
 rfl
def i64s (L : List Nat) : List Int := L.map fun (x : Nat) => (x : Int)
theorem i64s_len (L : List Nat) : (i64s L).length = L.length := by simp [i64s]
theorem i64s_get (L : List Nat) (i : Nat) (h : i < (i64s L).length) : (i64s L)[i] = ((L.getD i 0 : Nat) : Int) := by
 rw [i64s_len] at h
 simp [i64s, List.getD_eq_getElem?_getD, List.getElem?_eq_getElem h]
def RWn (w : World) (base p : Nat) (v : Value) (L : List Nat) : Prop := HpB w p (.cells #[v] 109) ∧ base ≤ p ∧ EQ I1 2 w base v L.length (i64s L)
theorem RWn.bw {w w' : World} {base p : Nat} {v : Value} {L : List Nat} (h : RWn w base p v L) (b : BW w w') : RWn w' base p v L := ⟨h.1.bw b, h.2.1, h.2.2.bw b⟩
theorem RWn.still {w w' : World} {base p : Nat} {v : Value} {L : List Nat} (h : RWn w base p v L) {S : List Nat} (hs : Still S w w') (h1 : p ∉ S) (h2 : ∀ k, v.ownBlock = some k → k ∉ S) : RWn w' base p v L := ⟨h.1.st hs h1, h.2.1, h.2.2.still hs (fun _ _ => trivial) h2⟩
set_option maxRecDepth 100000 in
set_option maxHeartbeats 8000000 in
theorem rwhigh_ok (base p : Nat) (v : Value) (L : List Nat) (hl : L.length ≤ 1000000) (w : World) (h : RWn w base p v L) :
  Calls Tryz.prog 51 #[.pointer (some ⟨p, 0, none⟩)] w fun e w' => e = .returned (.int .i64 (hiR L)) ∧ w = w' := by
 obtain ⟨s, c, rfl, hnc, hmc⟩ := h.2.2.len
 unfold maxLen at hmc
 obtain ⟨n, hnn⟩ : ∃ n, L.length = n := ⟨_, rfl⟩
 have z0 : w.cell? ⟨p, 0, none⟩ = some (.slice s L.length c) := hp_cell h.1 0
 have hq := h.2.2
 have hli := i64s_len L
 have hgi := fun i h => i64s_get L i h
 rw [hnn] at hq hnc hl z0 hli
 have hH := Lib.hid hq
 have ht := fun k hk => hiR_take L k hk
 rw [hnn] at ht
 have hfull : hiR (L.take n) = hiR L := by rw [← hnn, List.take_length]
 clear h hq
 generalize i64s L = ls at *
 replace hnn := Lib.hid hnn
 replace hli := Lib.hid hli
 replace hgi := Lib.hid hgi
 replace ht := Lib.hid ht
 replace hfull := Lib.hid hfull
 go_enter Tryz.func51, Tryz.ntmps51
 go_upto_region 3 with (fail)
 go_loopg [3, 4] n (fun m' a i wx => ∃ k : Nat, m' = n - k ∧ k ≤ n ∧ a = .int .i64 (hiR (L.take k)) ∧ i = .int .i64 (k : Nat) ∧ wx = w)
 case atStart => exact ⟨0, rfl, by omega, rfl, rfl, rfl⟩
 case round =>
  obtain ⟨k, rfl, hk, rfl, rfl, rfl⟩ := hrel
  by_cases hkn : k < n
  ·have d : decide ((k : Int) < (n : Int)) = true := by simp; omega
   obtain ⟨g, o, rfl, hcc⟩ := i1_form hH.out (by omega)
   have y0 := hcc k (by rw [hli.out]; exact hkn)
   rw [hgi.out] at y0
   have h1 := ht.out k hkn
   clear hcc
   generalize L.getD k 0 = x at *
   generalize hiR (L.take k) = y at *
   by_cases hxy : y < (x : Int)
   ·have d2 : decide (y < (x : Int)) = true := by simpa using hxy
    rw [if_pos hxy] at h1
    replace h1 := Lib.hid h1
    go_wp2_with fail
    go_roundg (n - (k + 1))
    case measure => omega
    case rel => exact ⟨k + 1, rfl, by omega, by rw [h1.out], by push_cast; rfl, rfl⟩
   ·have d2 : decide (y < (x : Int)) = false := by simpa using hxy
    rw [if_neg hxy] at h1
    replace h1 := Lib.hid h1
    go_wp2_with fail
    go_roundg (n - (k + 1))
    case measure => omega
    case rel => exact ⟨k + 1, rfl, by omega, by rw [h1.out], by push_cast; rfl, rfl⟩
  ·obtain rfl : k = n := by omega
   have d : decide ((k : Int) < (k : Int)) = false := by simp
   go_wp2_with fail
   go_ret
   exact ⟨by rw [hfull.out]; rfl, rfl⟩
set_option maxRecDepth 100000 in
set_option maxHeartbeats 8000000 in
theorem rwfresh_ok (base p : Nat) (v : Value) (L : List Nat) (hl : L.length ≤ 1000000) (i : Int) (hi : i ≤ 2305843009213693952) (w : World) (h : RWn w base p v L) :
  Calls Tryz.prog 46 #[.pointer (some ⟨p, 0, none⟩), .int .i64 i] w fun e w' => e = .returned (.bool (freshR L i)) ∧ w = w' := by
 have cH := Lib.hid (rwhigh_ok base p v L hl w h)
 obtain ⟨s, c, rfl, hnc, hmc⟩ := h.2.2.len
 unfold maxLen at hmc
 obtain ⟨n, hnn⟩ : ∃ n, L.length = n := ⟨_, rfl⟩
 have z0 : w.cell? ⟨p, 0, none⟩ = some (.slice s L.length c) := hp_cell h.1 0
 have hq := h.2.2
 have hli := i64s_len L
 have hgi := fun i h => i64s_get L i h
 rw [hnn] at hq hnc hl z0 hli
 have hH := Lib.hid hq
 have hF : freshR L i = (!(decide (i < 0) || decide (i + 64 ≤ hiR L)) && !(L.any fun y => (y : Int) == i)) := rfl
 have hany : ∀ k, k < n → ((L.getD k 0 : Nat) : Int) = i → (L.any fun y => (y : Int) == i) = true := fun k hk he => List.any_eq_true.2 ⟨L.getD k 0, by
  rw [List.getD_eq_getElem?_getD, List.getElem?_eq_getElem (by rw [hnn]; exact hk)]; exact List.getElem_mem _, by simpa using he⟩
 have hnone : (∀ k, k < n → ((L.getD k 0 : Nat) : Int) ≠ i) → (L.any fun y => (y : Int) == i) = false := fun hx => by
  rw [List.any_eq_false]
  intro y hy
  obtain ⟨k, hk, rfl⟩ := List.mem_iff_getElem.1 hy
  have := hx k (by rw [← hnn]; exact hk)
  rw [List.getD_eq_getElem?_getD, List.getElem?_eq_getElem hk] at this
  simpa using this
 generalize (L.any fun y => (y : Int) == i) = an at *
 generalize freshR L i = R at *
 generalize hiR L = hh at *
 clear h hq
 generalize i64s L = ls at *
 replace hnn := Lib.hid hnn
 replace hli := Lib.hid hli
 replace hgi := Lib.hid hgi
 replace hany := Lib.hid hany
 replace hnone := Lib.hid hnone
 replace hF := Lib.hid hF
 by_cases h0 : i < 0
 ·have d0 : decide (i < 0) = true := by simpa using h0
  have hR := hF.out
  rw [d0, Bool.true_or, Bool.not_true, Bool.false_and] at hR
  subst hR
  go_enter Tryz.func46, Tryz.ntmps46
  go_wp2_with fail
  go_ret
  exact ⟨rfl, rfl⟩
 have d0 : decide (i < 0) = false := by simpa using h0
 by_cases h2 : i + 64 ≤ hh
 ·have d1 : decide (i + 64 ≤ hh) = true := by simpa using h2
  have hR := hF.out
  rw [d1, Bool.or_true, Bool.not_true, Bool.false_and] at hR
  subst hR
  go_enter Tryz.func46, Tryz.ntmps46
  go_wp2_with fail
  refine Calls.mono cH.out ?_
  rintro e w' ⟨rfl, rfl⟩
  dsimp only
  go_wp2_with fail
  go_ret
  exact ⟨rfl, rfl⟩
 have d1 : decide (i + 64 ≤ hh) = false := by simpa using h2
 have hR := hF.out
 rw [d0, d1, Bool.or_false, Bool.not_false, Bool.true_and] at hR
 subst hR
 clear hF
 go_enter Tryz.func46, Tryz.ntmps46
 go_wp2_with fail
 refine Calls.mono cH.out ?_
 rintro e w' ⟨rfl, rfl⟩
 dsimp only
 clear cH
 go_upto_region 4 with (fail)
 clear d0 d1 h0 h2
 go_loopg [5] n (fun m' a wx => ∃ k : Nat, m' = n - k ∧ k ≤ n ∧ a = .int .i64 (k : Nat) ∧ Hid (∀ j, j < k → ((L.getD j 0 : Nat) : Int) ≠ i) ∧ wx = w)
 case atStart => exact ⟨0, rfl, by omega, rfl, fun j hj => by omega, rfl⟩
 case round =>
  obtain ⟨k, rfl, hk, rfl, hjs, rfl⟩ := hrel
  by_cases hkn : k < n
  ·have d : decide ((k : Int) < (n : Int)) = true := by simp; omega
   obtain ⟨g, o, rfl, hcc⟩ := i1_form hH.out (by omega)
   have y0 := hcc k (by rw [hli.out]; exact hkn)
   rw [hgi.out] at y0
   have hak := hany.out k hkn
   have hsn : ((L.getD k 0 : Nat) : Int) ≠ i → ∀ j, j < k + 1 → ((L.getD j 0 : Nat) : Int) ≠ i := fun h j hj => by
    by_cases e : j = k
    ·subst e; exact h
    ·exact hjs.out j (by omega)
   clear hcc
   generalize L.getD k 0 = x at *
   by_cases hxy : (x : Int) = i
   ·have d2 : ((x : Int) == i) = true := by simpa using hxy
    have := hak hxy
    subst this
    clear hak hsn
    go_wp2_with fail
    go_ret
    exact ⟨rfl, rfl⟩
   ·have d2 : ((x : Int) == i) = false := by simpa using hxy
    have hs2 := Lib.hid (hsn hxy)
    clear hak hsn hxy
    go_wp2_with fail
    go_roundg (n - (k + 1))
    case measure => omega
    case rel => exact ⟨k + 1, rfl, by omega, by push_cast; rfl, hs2, rfl⟩
  ·obtain rfl : k = n := by omega
   have d : decide ((k : Int) < (k : Int)) = false := by simp
   have := hnone.out hjs.out
   subst this
   go_wp2_with fail
   go_ret
   exact ⟨rfl, rfl⟩
set_option maxRecDepth 100000 in
set_option maxHeartbeats 8000000 in
theorem rwmark_ok (base p : Nat) (v : Value) (L : List Nat) (hl : L.length ≤ 1000000) (i : Nat) (hi : i ≤ 2305843009213693952) (hf : freshR L i = true) (w : World) (hbase : base ≤ w.heap.size) (h : RWn w base p v L) :
  Calls Tryz.prog 48 #[.pointer (some ⟨p, 0, none⟩), .int .i64 (i : Nat)] w fun e w' => e = .returned (.bool true) ∧ ∃ v', RWn w' base p v' (L ++ [i]) ∧ Still (p :: v.ownBlock.toList) w w' ∧ ∀ j, v'.ownBlock = some j → v.ownBlock = some j ∨ w.heap.size ≤ j := by
 have cF := Lib.hid (rwfresh_ok base p v L hl i (by omega) w h)
 rw [hf] at cF
 obtain ⟨s, c, rfl, hnc, hmc⟩ := h.2.2.len
 unfold maxLen at hmc
 have hs2 : i64s L ++ [(i : Int)] = i64s (L ++ [i]) := by simp [i64s]
 have hl2 : (L ++ [i]).length = L.length + 1 := by simp
 have z0 : w.cell? ⟨p, 0, none⟩ = some (.slice s L.length c) := hp_cell h.1 0
 have f0 := hp_frz h.1 0
 have hp0 := Lib.hid h.1
 have hpb := Lib.hid h.2.1
 have hq := Lib.hid h.2.2
 clear h hf
 generalize hn : L.length = n at *
 replace hs2 := Lib.hid hs2
 replace hl2 := Lib.hid hl2
 replace hn := Lib.hid hn
 go_enter Tryz.func48, Tryz.ntmps48
 go_wp2_with fail
 refine Calls.mono cF.out ?_
 rintro e w' ⟨rfl, rfl⟩
 dsimp only
 clear cF
 have BA : BW w (w.alloc (.cells #[.int .i64 (i : Nat)] 2)) := (BW.refl _).alloc
 have L4 := Lib.hid (Sls.new1 (E := I1) w 2 [.int .i64 (i : Nat)] rfl)
 have O4 := Lib.hid (hq.out.bw BA)
 have P4 := Lib.hid (hp0.out.bw BA)
 have hz4 := Nat.le_trans hbase BA.size
 have hzw := Lib.hid BA.size
 replace BA := Lib.hid BA
 go_upto_region 4 with (at_builtin; go_must (refine wpList_apEQ slI64 rfl _ _ rfl base (.slice s n c) n _ rfl O4.out _ rfl 1 [(i : Int)] [.int .i64 (i : Nat)] L4.out (EL.single rfl) rfl (by omega) hz4 (fun _ _ => trivial) ?_; intro s6 c6 w6 hc6 hm6 O6 T6 hb6 G6; unfold maxLen at hm6; replace O6 := Lib.hid O6; replace T6 := Lib.hid T6; replace G6 := Lib.hid G6; clear hb6; have f6 := hp_frz (P4.out.st T6.out (fun hm => O4.out.ne P4.out (by decide) p (by simpa using hm) rfl)) 0; have z6 := (hp_cell (P4.out.st T6.out (fun hm => O4.out.ne P4.out (by decide) p (by simpa using hm) rfl)) 0).trans (show _ = some (.slice s n c) from rfl)))
 have hpn : p ∉ (Value.slice s n c).ownBlock.toList := fun hm => O4.out.ne P4.out (by decide) p (by simpa using hm) rfl
 have P6 := P4.out.st T6.out hpn
 have P7 := hp_set P6 0 (.slice s6 (n + 1) c6)
 have T7 := still_setR w6 p 0 (.slice s6 (n + 1) c6)
 have n6 : ∀ k, (Value.slice s6 (n + 1) c6).ownBlock = some k → k ∉ [p] := fun k hk => by have := O6.out.ne P6 (by decide) k hk; simpa using this
 have O7 := O6.out.still T7 (fun _ _ => trivial) n6
 rw [hs2.out] at O7
 have S7 : Hid (Still (p :: (Value.slice s n c).ownBlock.toList) w _) := ((BA.out.still _).trans (T6.out.weaken (fun k hk => List.mem_cons_of_mem _ hk))).trans (T7.weaken (fun k hk => by obtain rfl : k = p := (by simpa using hk); simp))
 replace P7 := Lib.hid P7
 replace O7 := Lib.hid O7
 clear f6 z6 T7 P6
 go_wp2_with fail
 go_ret
 refine ⟨rfl, .slice s6 (n + 1) c6, ⟨P7.out, hpb.out, ?_⟩, S7.out, fun j hj => ?_⟩
 ·rw [hl2.out]; exact O7.out
 ·rcases G6.out j hj with h1 | h1
  ·exact .inl h1
  ·exact .inr (Nat.le_trans hzw.out h1)
end Go.Proofs.YtikmhlbpefednaaGreat

namespace Go.Proofs.YtikmhlbpefednaaGreat
open Go.RowKit
def pureE {α : Type} (n : Nat) (f : α → List Value) (hn : 0 < n) (hl : ∀ a, (f a).length = n) (h1 : ∀ a, ∀ u ∈ f a, u.oneCell' = true) : Elt α where
 size := n
 R := fun _ _ a c => c = f a
 Ok := fun _ _ => True
 pos := hn
 len := fun e => by rw [e]; exact hl _
 one := fun e u hu => by rw [e] at hu; exact h1 _ u hu
 bw := fun e _ => e
 up := fun e _ => e
 still := fun e _ _ => e
 old := fun e _ _ => e
variable {α : Type}
def SQ (E : Elt α) (w : World) (base : Nat) (v : Value) (n : Nat) (l : List α) : Prop := l.length = n ∧ ∃ xs, Sls w E.size v n xs ∧ EL E w base l xs
theorem EQ.sq {E : Elt α} {T : TypeId} {w : World} {base : Nat} {v : Value} {n : Nat} {l : List α} (h : EQ E T w base v n l) : SQ E w base v n l := by
 obtain ⟨h1, xs, h2, h3⟩ := h
 exact ⟨h1, xs, h2.sls, h3⟩
theorem SQ.bw {E : Elt α} {a b : World} {base : Nat} {v : Value} {n : Nat} {l : List α} (h : SQ E a base v n l) (hb : BW a b) : SQ E b base v n l := by
 obtain ⟨h1, xs, h2, h3⟩ := h
 exact ⟨h1, xs, h2.bw hb, h3.mono fun _ _ h => E.bw h hb⟩
theorem SQ.len {E : Elt α} {w : World} {base : Nat} {v : Value} {n : Nat} {l : List α} (h : SQ E w base v n l) : ∃ sa cap, v = .slice sa n cap ∧ n ≤ cap ∧ cap ≤ maxLen := h.2.choose_spec.1.len
theorem SQ.still {E : Elt α} {w w' : World} {base : Nat} {v : Value} {n : Nat} {l : List α} (h : SQ E w base v n l) {S : List Nat} (hs : Still S w w') (hS : ∀ k ∈ S, E.Ok w k) (hv : ∀ g, v.ownBlock = some g → g ∉ S) : SQ E w' base v n l := by
 obtain ⟨h1, xs, h2, h3⟩ := h
 exact ⟨h1, xs, h2.still hs hv, h3.mono fun _ _ h => E.still h hs hS⟩
theorem SQ.form {E : Elt α} {w : World} {base : Nat} {v : Value} {n : Nat} {l : List α} (h : SQ E w base v n l) (h0 : 0 < n) :
  ∃ g o cap, v = .slice (some ⟨g, o, Option.none⟩) n cap ∧ g < w.heap.size ∧ n ≤ cap ∧ cap ≤ maxLen ∧ ∀ i (_ : i < l.length), ∃ c, E.R w base l[i] c ∧ ∀ j, j < E.size → w.cell? ⟨g, o + (i * E.size + j), Option.none⟩ = c[j]? := by
 obtain ⟨h1, xs, h2, h3⟩ := h
 obtain ⟨b, o, cap, rfl, hc, hm, hlt, hx⟩ := h2.form h0
 refine ⟨b, o, cap, rfl, hlt, hc, hm, fun i hi => ?_⟩
 obtain ⟨c, hR, hce⟩ := h3.get i hi
 refine ⟨c, hR, fun j hj => ?_⟩
 rw [hx _ (by rw [h1] at hi; have := Nat.mul_le_mul_right E.size (show i + 1 ≤ n by omega); rw [Nat.succ_mul] at this; omega), hce j hj]
theorem SQ.own {E : Elt α} {w : World} {base : Nat} {v : Value} {n : Nat} {l : List α} (h : SQ E w base v n l) (h0 : 0 < n) : ∀ k, v.ownBlock = some k → k < w.heap.size := by
 obtain ⟨g, o, cap, rfl, hlt, _⟩ := h.form h0
 intro k hk
 cases hk
 exact hlt
theorem EL.of {E : Elt α} {w : World} {base : Nat} : ∀ (l : List (List Value × α)), (∀ p ∈ l, E.R w base p.2 p.1) → EL E w base (l.map Prod.snd) (l.map Prod.fst).flatten
 | [], _ => rfl
 | p :: l, h => ⟨p.1, (l.map Prod.fst).flatten, rfl, h p (List.mem_cons_self), EL.of l fun q hq => h q (List.mem_cons_of_mem _ hq)⟩
end Go.Proofs.YtikmhlbpefednaaGreat

namespace Go.Proofs.YtikmhlbpefednaaGreat
open Go.RowKit
def atN (M : List (Nat × Nat × Nat)) (s : Nat) : Int := if hasW M s then ((M.findIdx fun p => p.1 == s : Nat) : Int) else -1
theorem atN_is {M : List (Nat × Nat × Nat)} {s k : Nat} (hk : k < M.length) (h : (M[k]).1 = s) (hb : ∀ j (hj : j < k), (M[j]).1 ≠ s) : atN M s = (k : Nat) := by
 have hh : hasW M s = true := hasW_iff.2 ⟨M[k], List.getElem_mem _, h⟩
 unfold atN
 rw [if_pos hh]
 congr 1
 rw [List.findIdx_eq hk]
 exact ⟨by simpa using h, fun j hj => by simpa using hb j hj⟩
theorem atN_no {M : List (Nat × Nat × Nat)} {s : Nat} (hb : ∀ j (hj : j < M.length), (M[j]).1 ≠ s) : atN M s = -1 := by
 have hh : ¬ hasW M s = true := fun h => by
  obtain ⟨p, hp, e⟩ := hasW_iff.1 h
  obtain ⟨j, hj, rfl⟩ := List.mem_iff_getElem.1 hp
  exact hb j hj e
 unfold atN
 rw [if_neg hh]
theorem atN_cases {M : List (Nat × Nat × Nat)} (hM : MOk M) (s : Nat) :
  (∃ k, ∃ h : k < M.length, atN M s = (k : Nat) ∧ hasW M s = true ∧ (M[k]).1 = s ∧ getW M s = (M[k]).2) ∨ (atN M s = -1 ∧ hasW M s = false ∧ getW M s = (0, 0)) := by
 by_cases hh : hasW M s = true
 ·left
  obtain ⟨p, hp, e⟩ := hasW_iff.1 hh
  have hlt : (M.findIdx fun p => p.1 == s) < M.length := List.findIdx_lt_length_of_exists ⟨p, hp, by simpa using e⟩
  have h1 := List.findIdx_getElem (w := hlt)
  have h2 : (M[M.findIdx fun p => p.1 == s]).1 = s := by simpa using h1
  refine ⟨_, hlt, by unfold atN; rw [if_pos hh], hh, h2, ?_⟩
  exact (getW_mem hM.nd (s := s) (v := (M[M.findIdx fun p => p.1 == s]).2) (by
   have : (s, (M[M.findIdx fun p => p.1 == s]).2) = M[M.findIdx fun p => p.1 == s] := Prod.ext h2.symm rfl
   rw [this]
   exact List.getElem_mem _)).1
 ·right
  have hf : hasW M s = false := by simpa using hh
  refine ⟨by unfold atN; rw [if_neg hh], hf, (getW_none fun p hp e => hh (hasW_iff.2 ⟨p, hp, e⟩)).1⟩
theorem setW_at {M : List (Nat × Nat × Nat)} (hM : MOk M) {s k : Nat} (hk : k < M.length) (h : (M[k]).1 = s) (v : Nat × Nat) : setW M s v = M.set k (s, v) := by
 have hh : hasW M s = true := hasW_iff.2 ⟨M[k], List.getElem_mem _, h⟩
 unfold setW
 rw [if_pos hh]
 refine List.ext_getElem? fun j => ?_
 rw [List.getElem?_map, List.getElem?_set]
 by_cases hjk : k = j
 ·subst hjk
  rw [if_pos rfl, if_pos hk, List.getElem?_eq_getElem hk, Option.map_some, if_pos h]
 ·rw [if_neg hjk]
  by_cases hj : j < M.length
  ·rw [List.getElem?_eq_getElem hj, Option.map_some, if_neg]
   intro e
   have h1 : (M.map Prod.fst)[j]'(by simpa using hj) = (M.map Prod.fst)[k]'(by simpa using hk) := by rw [List.getElem_map, List.getElem_map, e, h]
   exact hjk ((List.getElem_inj hM.nd).1 h1).symm
  ·rw [List.getElem?_eq_none (by omega)]; rfl
theorem setW_new {M : List (Nat × Nat × Nat)} {s : Nat} (h : hasW M s = false) (v : Nat × Nat) : setW M s v = M ++ [(s, v)] := by
 unfold setW
 rw [if_neg (by rw [h]; decide)]
def U4 : Elt Nat := pureE 1 (fun a => [.int .u32 (a : Nat)]) (by decide) (fun _ => rfl) (fun _ u hu => by simp at hu; rw [hu]; rfl)
def PW : Elt Nat := pureE 1 (fun a => [.pointer (some ⟨a, 0, none⟩)]) (by decide) (fun _ => rfl) (fun _ u hu => by simp at hu; rw [hu]; rfl)
theorem slU32 : SlTy Tryz.prog 34 33 1 4 := SlTy.mk' Tryz.underlying34 (by kernel_rfl) (by decide)
theorem slPW : SlTy Tryz.prog 50 104 1 8 := SlTy.mk' Tryz.underlying50 (by kernel_rfl) (by decide)
theorem u4_form {T : TypeId} {w : World} {base : Nat} {sv : Option Addr} {n cap : Nat} {L : List Nat} (h : EQ U4 T w base (.slice sv n cap) n L) (h0 : 0 < n) :
  ∃ g o, sv = some ⟨g, o, none⟩ ∧ ∀ i (hi : i < L.length), w.cell? ⟨g, o + i, none⟩ = some (.int .u32 (L[i] : Nat)) := by
 obtain ⟨g, o, cap', hsl, _, _, _, _, hce⟩ := h.form h0
 simp only [Value.slice.injEq] at hsl
 refine ⟨g, o, hsl.1, fun i hi => ?_⟩
 obtain ⟨c, hc, hcc⟩ := hce i hi
 have hc' : c = [.int .u32 (L[i] : Nat)] := hc
 have z0 := hcc 0 (by decide)
 have e2 : U4.size = 1 := rfl
 rw [hc', e2, Nat.mul_one] at z0
 exact z0
theorem pw_form {T : TypeId} {w : World} {base : Nat} {sv : Option Addr} {n cap : Nat} {L : List Nat} (h : EQ PW T w base (.slice sv n cap) n L) (h0 : 0 < n) :
  ∃ g o, sv = some ⟨g, o, none⟩ ∧ ∀ i (hi : i < L.length), w.cell? ⟨g, o + i, none⟩ = some (.pointer (some ⟨L[i], 0, none⟩)) := by
 obtain ⟨g, o, cap', hsl, _, _, _, _, hce⟩ := h.form h0
 simp only [Value.slice.injEq] at hsl
 refine ⟨g, o, hsl.1, fun i hi => ?_⟩
 obtain ⟨c, hc, hcc⟩ := hce i hi
 have hc' : c = [.pointer (some ⟨L[i], 0, none⟩)] := hc
 have z0 := hcc 0 (by decide)
 have e2 : PW.size = 1 := rfl
 rw [hc', e2, Nat.mul_one] at z0
 exact z0
def rwayC (K : List Nat) (lim : Int) (used : Nat) (vN vW : Value) : Array Value := ivA .u8 K ++ #[.int .i64 lim, .int .i64 (used : Nat), vN, vW]
theorem rwayC_at {K : List Nat} {lim : Int} {used : Nat} {vN vW : Value} (hl : K.length = 50) (i : Nat) : (rwayC K lim used vN vW)[50 + i]? = (#[.int .i64 lim, .int .i64 (used : Nat), vN, vW] : Array Value)[i]? := by
 unfold rwayC
 rw [Array.getElem?_append_right (by rw [ivA_size]; omega), ivA_size, hl]
 congr 1
 omega
theorem rwayC_set {K : List Nat} {lim : Int} {used : Nat} {vN vW : Value} (hl : K.length = 50) (i : Nat) (v : Value) : (rwayC K lim used vN vW).setIfInBounds (50 + i) v = ivA .u8 K ++ (#[.int .i64 lim, .int .i64 (used : Nat), vN, vW] : Array Value).setIfInBounds i v := by
 apply Array.ext'
 simp only [rwayC, Array.toList_setIfInBounds, Array.toList_append]
 rw [List.set_append_right _ _ (by rw [Array.length_toList, ivA_size, hl]; omega), Array.length_toList, ivA_size, hl, Nat.add_sub_cancel_left]
structure RwV (w : World) (base g : Nat) (K : List Nat) (lim : Int) (used : Nat) (M : List (Nat × Nat × Nat)) (vN vW : Value) (ps : List Nat) (v : Nat → Value) (L : Nat → List Nat) : Prop where
 hp : HpB w g (.cells (rwayC K lim used vN vW) 52)
 bg : base ≤ g
 len : K.length = 50
 byt : ByL K
 nm : EQ U4 33 w base vN M.length (M.map Prod.fst)
 wi : EQ PW 104 w base vW M.length ps
 ea : ∀ i (h : i < M.length), RWn w base (ps.getD i 0) (v i) (L i) ∧ WinI (M[i]).2.1 (M[i]).2.2 (L i) ∧ (L i).length ≤ used
 nd : ∀ i j, i < M.length → j < M.length → i ≠ j → ps.getD i 0 ≠ ps.getD j 0 ∧ ∀ k, (v i).ownBlock = some k → (v j).ownBlock ≠ some k
section
variable {w w' : World} {base g : Nat} {K : List Nat} {lim : Int} {used : Nat} {M : List (Nat × Nat × Nat)} {vN vW : Value} {ps : List Nat} {v : Nat → Value} {L : Nat → List Nat}
theorem RwV.bw (h : RwV w base g K lim used M vN vW ps v L) (b : BW w w') : RwV w' base g K lim used M vN vW ps v L := ⟨h.hp.bw b, h.bg, h.len, h.byt, h.nm.bw b, h.wi.bw b, fun i hi => ⟨(h.ea i hi).1.bw b, (h.ea i hi).2⟩, h.nd⟩
def rwBlk (g : Nat) (m : Nat) (vN vW : Value) (ps : List Nat) (v : Nat → Value) (k : Nat) : Prop := k = g ∨ vN.ownBlock = some k ∨ vW.ownBlock = some k ∨ ∃ i, i < m ∧ (k = ps.getD i 0 ∨ (v i).ownBlock = some k)
theorem RwV.still (h : RwV w base g K lim used M vN vW ps v L) {S : List Nat} (hs : Still S w w') (hS : ∀ k ∈ S, ¬ rwBlk g M.length vN vW ps v k) : RwV w' base g K lim used M vN vW ps v L :=
 ⟨h.hp.st hs fun hm => hS g hm (.inl rfl), h.bg, h.len, h.byt, h.nm.still hs (fun _ _ => trivial) fun k hk hm => hS k hm (.inr (.inl hk)), h.wi.still hs (fun _ _ => trivial) fun k hk hm => hS k hm (.inr (.inr (.inl hk))),
  fun i hi => ⟨(h.ea i hi).1.still hs (fun hm => hS _ hm (.inr (.inr (.inr ⟨i, hi, .inl rfl⟩)))) fun k hk hm => hS k hm (.inr (.inr (.inr ⟨i, hi, .inr hk⟩))), (h.ea i hi).2⟩, h.nd⟩
def rwTy (T : TypeId) : Prop := T = 52 ∨ T = 33 ∨ T = 104 ∨ T = 109 ∨ T = 2
theorem RwV.row (h : RwV w base g K lim used M vN vW ps v L) {k : Nat} (hk : rwBlk g M.length vN vW ps v k) : base ≤ k ∧ k < w.heap.size ∧ ∃ cs T, w.heap[k]? = some (.cells cs T (0, 0)) ∧ rwTy T := by
 rcases hk with rfl | hk | hk | ⟨i, hi, rfl | hk⟩
 ·exact ⟨h.bg, h.hp.lt, _, _, h.hp, .inl rfl⟩
 ·obtain ⟨cs, hr⟩ := h.nm.row k hk
  exact ⟨h.nm.ge' k hk, h.nm.lt' k hk, _, _, hr, .inr (.inl rfl)⟩
 ·obtain ⟨cs, hr⟩ := h.wi.row k hk
  exact ⟨h.wi.ge' k hk, h.wi.lt' k hk, _, _, hr, .inr (.inr (.inl rfl))⟩
 ·exact ⟨(h.ea i hi).1.2.1, (h.ea i hi).1.1.lt, _, _, (h.ea i hi).1.1, .inr (.inr (.inr (.inl rfl)))⟩
 ·obtain ⟨cs, hr⟩ := (h.ea i hi).1.2.2.row k hk
  exact ⟨(h.ea i hi).1.2.2.ge' k hk, (h.ea i hi).1.2.2.lt' k hk, _, _, hr, .inr (.inr (.inr (.inr rfl)))⟩
theorem RwV.lm (h : RwV w base g K lim used M vN vW ps v L) : w.cell? ⟨g, 50, none⟩ = some (.int .i64 lim) := (hp_cell h.hp 50).trans (rwayC_at h.len 0)
theorem RwV.usd (h : RwV w base g K lim used M vN vW ps v L) : w.cell? ⟨g, 51, none⟩ = some (.int .i64 (used : Nat)) := (hp_cell h.hp 51).trans (rwayC_at h.len 1)
theorem RwV.nam (h : RwV w base g K lim used M vN vW ps v L) : w.cell? ⟨g, 52, none⟩ = some vN := (hp_cell h.hp 52).trans (rwayC_at h.len 2)
theorem RwV.win (h : RwV w base g K lim used M vN vW ps v L) : w.cell? ⟨g, 53, none⟩ = some vW := (hp_cell h.hp 53).trans (rwayC_at h.len 3)
end
set_option maxRecDepth 100000 in
set_option maxHeartbeats 8000000 in
theorem rwat_ok (base g : Nat) (K : List Nat) (lim : Int) (used : Nat) (M : List (Nat × Nat × Nat)) (vN vW : Value) (ps : List Nat) (v : Nat → Value) (L : Nat → List Nat) (s : Nat) (hs : s < 4294967296) (hml : M.length ≤ 1000) (w : World) (h : RwV w base g K lim used M vN vW ps v L) :
  Calls Tryz.prog 44 #[.pointer (some ⟨g, 0, none⟩), .int .u32 (s : Nat)] w fun e w' => e = .returned (.int .i64 (atN M s)) ∧ w = w' := by
 have z2 := h.nam
 obtain ⟨sN, cN, rfl, hnc, hmc⟩ := h.nm.len
 unfold maxLen at hmc
 have hq := Lib.hid h.nm
 have hli : (M.map Prod.fst).length = M.length := by simp
 have hgi : ∀ i (h : i < (M.map Prod.fst).length) (h2 : i < M.length), (M.map Prod.fst)[i] = (M[i]).1 := fun i h h2 => List.getElem_map _
 have hno := @atN_no M s
 have his := @atN_is M s
 clear h
 obtain ⟨n, hn⟩ : ∃ n, M.length = n := ⟨_, rfl⟩
 rw [hn] at hml z2 hnc hq hli
 generalize M.map Prod.fst = ls at *
 replace hli := Lib.hid hli
 replace hgi := Lib.hid hgi
 replace hno := Lib.hid hno
 replace hn := Lib.hid hn
 go_enter Tryz.func44, Tryz.ntmps44
 go_upto_region 2 with (fail)
 go_loopg [5] n (fun m' a wx => ∃ k : Nat, m' = n - k ∧ k ≤ n ∧ a = .int .i64 (k : Nat) ∧ Hid (∀ j (hj : j < k) (hk : j < M.length), (M[j]).1 ≠ s) ∧ wx = w)
 case atStart => exact ⟨0, rfl, by omega, rfl, fun j hj => by omega, rfl⟩
 case round =>
  obtain ⟨k, rfl, hk, rfl, hjs, rfl⟩ := hrel
  by_cases hkn : k < n
  ·have d : decide ((k : Int) < (n : Int)) = true := by simp; omega
   obtain ⟨g1, o, rfl, hcc⟩ := u4_form hq.out (by omega)
   have y0 := hcc k (by rw [hli.out]; exact hkn)
   have hkm : k < M.length := by rw [hn.out]; exact hkn
   rw [hgi.out k _ hkm] at y0
   have hI : ∀ (e : (M[k]'hkm).1 = s), atN M s = (k : Nat) := fun e => his hkm e fun j hj => hjs.out j hj (by omega)
   have hsn : (M[k]'hkm).1 ≠ s → ∀ j (hj : j < k + 1) (hk : j < M.length), (M[j]).1 ≠ s := fun h j hj hk => by
    by_cases e : j = k
    ·subst e; exact h
    ·exact hjs.out j (by omega) hk
   clear hcc
   generalize (M[k]'hkm).1 = x at *
   by_cases hxy : x = s
   ·have d2 : ((x : Int) == (s : Int)) = true := by simp; omega
    have := hI hxy
    clear hI hsn
    replace this := Lib.hid this
    replace hxy := Lib.hid hxy
    go_wp2_with fail
    go_ret
    exact ⟨by rw [this.out]; rfl, rfl⟩
   ·have d2 : ((x : Int) == (s : Int)) = false := by simp; omega
    have hs2 := Lib.hid (hsn hxy)
    clear hI hsn hxy
    go_wp2_with fail
    go_roundg (n - (k + 1))
    case measure => omega
    case rel => exact ⟨k + 1, rfl, by omega, by push_cast; rfl, hs2, rfl⟩
  ·obtain rfl : k = n := by omega
   have d : decide ((k : Int) < (k : Int)) = false := by simp
   have := hno.out fun j hj => hjs.out j (by have := hn.out; omega) hj
   replace this := Lib.hid this
   go_wp2_with fail
   go_ret
   exact ⟨by rw [this.out]; rfl, rfl⟩
set_option maxRecDepth 100000 in
set_option maxHeartbeats 8000000 in
theorem rwayhigh_ok (base g : Nat) (K : List Nat) (lim : Int) (used : Nat) (M : List (Nat × Nat × Nat)) (vN vW : Value) (ps : List Nat) (v : Nat → Value) (L : Nat → List Nat) (s : Nat) (hs : s < 4294967296) (hM : MOk M) (hml : M.length ≤ 1000) (hu : used ≤ 1000000) (w : World) (h : RwV w base g K lim used M vN vW ps v L) :
  Calls Tryz.prog 17 #[.pointer (some ⟨g, 0, none⟩), .int .u32 (s : Nat)] w fun e w' => e = .returned (.int .i64 (((getW M s).1 : Nat) - 1 : Int)) ∧ w = w' := by
 have cA := Lib.hid (rwat_ok base g K lim used M vN vW ps v L s hs hml w h)
 have z3 := h.win
 obtain ⟨sW, cW, rfl, hnc, hmc⟩ := h.wi.len
 unfold maxLen at hmc
 rcases atN_cases hM s with ⟨k, hk, e1, -, -, e2⟩ | ⟨e1, -, e2⟩
 ·obtain ⟨r1, r2, r3⟩ := h.ea k hk
  have hpl := h.wi.1
  obtain ⟨g1, o, rfl, hcc⟩ := pw_form h.wi (by omega)
  have y0 := hcc k (by rw [hpl]; exact hk)
  have e3 : ps[k]'(by rw [hpl]; exact hk) = ps.getD k 0 := by rw [List.getD_eq_getElem?_getD, List.getElem?_eq_getElem]; rfl
  rw [e3] at y0
  have cH := rwhigh_ok base _ _ _ (by omega) w r1
  rw [← r2.hi, ← e2] at cH
  rw [e1] at cA
  have hk' : k < M.length := hk
  generalize ps.getD k 0 = p at *
  have d0 : decide ((k : Int) < 0) = false := by simp
  replace cH := Lib.hid cH
  clear h hcc r1 r2 r3 e1 e2 e3 hpl hk
  generalize M.length = n at z3 hnc hk' hml
  go_enter Tryz.func17, Tryz.ntmps17
  go_wp2_with fail
  refine Calls.mono cA.out ?_
  rintro e w' ⟨rfl, rfl⟩
  dsimp only
  clear cA
  go_wp2_with fail
  refine Calls.mono cH.out ?_
  rintro e w' ⟨rfl, rfl⟩
  dsimp only
  go_wp2_with fail
  go_ret
  exact ⟨rfl, rfl⟩
 ·rw [e2]
  rw [e1] at cA
  clear h e1 e2
  go_enter Tryz.func17, Tryz.ntmps17
  go_wp2_with fail
  refine Calls.mono cA.out ?_
  rintro e w' ⟨rfl, rfl⟩
  dsimp only
  go_wp2_with fail
  go_ret
  exact ⟨rfl, rfl⟩
end Go.Proofs.YtikmhlbpefednaaGreat
