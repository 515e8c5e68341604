/- The program's number of a word, by a reading's own block. No condition but the size's. strings.Split at one byte. -/
import Derived.Test.YtafhnlnhflehhaaGreatDoorGHc
import Derived.Test.YtafhnlnhflehhaaGreatDoorOfX
namespace Go.Proofs.YtafhnlnhflehhaaGreatDoor
open Go.RowKit
abbrev rdC (st : Int) (sW : Option Addr) (nW cW : Nat) (sH : Option Addr) (nH cH : Nat) (bad : Bool) : Array Value := #[.int .i64 st, .slice sW nW cW, .slice sH nH cH, .bool bad]
structure NmR (x : BL) (b0 : Bool) (v : Int) (b1 : Bool) : Prop where
 ok : b1 = false → b0 = false ∧ ∃ n : Nat, n < 1048576 ∧ x = Lib.decDigits n ∧ v = n
 of : b0 = false → (∃ n : Nat, n < 1048576 ∧ x = Lib.decDigits n) → b1 = false
 bd : -9223372036854775808 ≤ v ∧ v ≤ 9223372036854775807
set_option maxRecDepth 100000 in
set_option maxHeartbeats 8000000 in
theorem rnumber_any (w0 : World) (g : Nat) (st : Int) (sW : Option Addr) (nW cW : Nat) (sH : Option Addr) (nH cH : Nat) (b0 : Bool) (x : BL) (w : World) (hx : x.length ≤ 1000000) (hw : BW w0 w) (hN : NumC w0 1048576) (hE : ErrC w0) (hR : HpB w g (.cells (rdC st sW nW cW sH nH cH b0) 55)) :
  Calls Tryz.prog 61 #[.pointer (some ⟨g, 0, none⟩), .string (bS x)] w fun e w' => ∃ v b1, e = .returned (.int .i64 v) ∧ NmR x b0 v b1 ∧ HpB w' g (.cells (rdC st sW nW cW sH nH cH b1) 55) ∧ Still [g] w w' := by
 have cA := Lib.hid (atoi_any (bS x) (by rw [bS_size]; omega) w (hE.bw hw))
 have cI := Lib.hid (fun (y : World) (hy : BW w y) (n : Nat) (hn : n < 1048576) => hN.itoa y (hw.trans hy) n hn)
 have R := Lib.hid hR
 clear hR hN hE hw
 go_enter Tryz.func61, Tryz.ntmps61
 go_wp2_with fail
 refine Calls.mono cA.out ?_
 rintro e w1 ⟨⟨v, hv, hvb, he⟩, hb⟩
 rw [bS_list] at hv he
 have D := Lib.hid hb
 replace R := Lib.hid (R.out.bw hb)
 replace hv := Lib.hid hv
 clear hb cA
 have y3 := (hp_cell R.out 3).trans (show _ = some (.bool b0) from rfl)
 have f3 := hp_frz R.out 3
 have fin : Hid (∀ y, BW w1 y → ∀ b1 : Bool, NmR x b0 v b1 → ∃ v' b1', Ending.returned (Value.int .i64 v) = .returned (.int .i64 v') ∧ NmR x b0 v' b1' ∧ HpB (y.setCell ⟨g, 3, none⟩ (.bool b1)) g (.cells (rdC st sW nW cW sH nH cH b1') 55) ∧ Still [g] w (y.setCell ⟨g, 3, none⟩ (.bool b1))) := Lib.hid (fun y hy b1 h => ⟨v, b1, rfl, h, hp_set (R.out.bw hy) 3 _, ((D.out.trans hy).still [g]).trans (still_setR y g 3 _)⟩)
 cases b0 with
 | true =>
  have hR1 : Hid (NmR x true v true) := Lib.hid ⟨fun h => (by cases h), fun h _ => (by cases h), hvb⟩
  rcases he with rfl | ⟨hno, t, q, rfl⟩
  ·go_wp2_with fail
   go_ret
   exact fin.out _ (BW.refl _) _ hR1.out
  ·clear hno
   go_wp2_with fail
   go_ret
   exact fin.out _ (BW.refl _) _ hR1.out
 | false =>
  rcases he with rfl | ⟨hno, t, q, rfl⟩
  ·by_cases c0 : v < 0
   ·have hR1 : Hid (NmR x false v true) := Lib.hid ⟨fun h => (by cases h), fun _ hx => hx.elim (fun n h => by have := hv.out n (by have := h.1; omega) h.2; omega), hvb⟩
    have d0 : decide (v < 0) = true := decide_eq_true c0
    go_wp2_with fail
    go_ret
    exact fin.out _ (BW.refl _) _ hR1.out
   ·by_cases c1 : v < 1048576
    ·obtain ⟨n, rfl⟩ : ∃ n : Nat, v = n := ⟨v.toNat, by omega⟩
     have hn : n < 1048576 := by omega
     have d0 : decide ((n : Int) < 0) = false := decide_eq_false c0
     have d1 : decide (1048576 ≤ (n : Int)) = false := decide_eq_false (by omega)
     have cc := Lib.hid (cI.out w1 D.out n hn)
     clear cI
     go_wp2_with fail
     refine Calls.mono cc.out ?_
     rintro _ w2 ⟨rfl, hb2⟩
     clear cc
     have y3 := (hp_cell (R.out.bw hb2) 3).trans (show _ = some (.bool false) from rfl)
     have f3 := hp_frz (R.out.bw hb2) 3
     by_cases hxn : x = Lib.decDigits n
     ·have hR1 : Hid (NmR x false (n : Nat) false) := Lib.hid ⟨fun _ => ⟨rfl, n, hn, hxn, rfl⟩, fun _ _ => rfl, hvb⟩
      have d2 : ((bS (Lib.decDigits n)).toList == (bS x).toList) = true := ba_beqI (by rw [hxn])
      replace hxn := Lib.hid hxn
      replace hb2 := Lib.hid hb2
      go_wp2_with fail
      go_ret
      exact fin.out _ hb2.out _ hR1.out
     ·have hR1 : Hid (NmR x false (n : Nat) true) := Lib.hid ⟨fun h => (by cases h), fun _ hx => hx.elim (fun m h => by have := hv.out m (by have := h.1; omega) h.2; obtain rfl : n = m := (by omega); exact absurd h.2 hxn), hvb⟩
      have d2 : ((bS (Lib.decDigits n)).toList == (bS x).toList) = false := ba_bneI (fun e => hxn (bS_inj e).symm)
      replace hxn := Lib.hid hxn
      replace hb2 := Lib.hid hb2
      go_wp2_with fail
      go_ret
      exact fin.out _ hb2.out _ hR1.out
    ·have hR1 : Hid (NmR x false v true) := Lib.hid ⟨fun h => (by cases h), fun _ hx => hx.elim (fun n h => by have := hv.out n (by have := h.1; omega) h.2; have := h.1; omega), hvb⟩
     have d0 : decide (v < 0) = false := decide_eq_false c0
     have d1 : decide (1048576 ≤ v) = true := decide_eq_true (by omega)
     go_wp2_with fail
     go_ret
     exact fin.out _ (BW.refl _) _ hR1.out
  ·have hR1 : Hid (NmR x false v true) := Lib.hid ⟨fun h => (by cases h), fun _ hx => hx.elim (fun n h => absurd h.2 (hno n (by have := h.1; omega))), hvb⟩
   clear hno
   go_wp2_with fail
   go_ret
   exact fin.out _ (BW.refl _) _ hR1.out
end Go.Proofs.YtafhnlnhflehhaaGreatDoor

namespace Go.Proofs.YtafhnlnhflehhaaGreatDoor
open Go.RowKit
theorem splitK_cut (c : UInt8) : ∀ s : BL, Lib.splitK [c] 0 (Lib.count s [c]) s = cutB c s
 | [] => by rw [Lib.count_one]; rfl
 | x :: l => by
  have ih := splitK_cut c l
  by_cases h : x = c
  ·subst h
   have hix : Lib.index (x :: l) [x] = 0 := by rw [Lib.index]; simp [List.isPrefixOf]
   rw [Lib.count_cons_eq, Nat.add_comm, Lib.splitK, hix, if_neg (by decide), cutB_eq, ← ih]
   rfl
  ·have hp : ([c] : List UInt8).isPrefixOf (x :: l) = false := by simp [List.isPrefixOf, Ne.symm h]
   have hix : Lib.index (x :: l) [c] = if Lib.index l [c] == -1 then -1 else Lib.index l [c] + 1 := by rw [Lib.index, hp]; simp
   rw [Lib.count_cons_ne x c l h, cutB_ne h, ← ih]
   by_cases hm : Lib.index l [c] = -1
   ·rw [Lib.count_miss hm]; rfl
   ·have hge := Lib.index_ge l [c]
    obtain ⟨j, hj⟩ : ∃ j : Nat, Lib.index l [c] = j := ⟨(Lib.index l [c]).toNat, by omega⟩
    rw [Lib.count_hit (by simp) hj, Nat.add_comm 1]
    have hix' : Lib.index (x :: l) [c] = ((j + 1 : Nat) : Int) := by rw [hix, if_neg (fun e => hm (beq_iff_eq.1 e)), hj]; omega
    have n1 : ¬ ((Lib.index (x :: l) [c] == -1) = true) := fun e => by have := beq_iff_eq.1 e; omega
    have n2 : ¬ ((Lib.index l [c] == -1) = true) := fun e => hm (beq_iff_eq.1 e)
    rw [Lib.splitK, if_neg n1, Lib.splitK, if_neg n2, hix', hj]
    rfl
theorem splitB_cut (c : UInt8) (S : ByteArray) : Lib.splitB ⟨#[c]⟩ 0 (Lib.countB S ⟨#[c]⟩) S = (cutB c S.data.toList).map bS := by
 have h := Lib.splitB_data ⟨#[c]⟩ 0 (Lib.countB S ⟨#[c]⟩) S
 have e : Lib.countB S ⟨#[c]⟩ = Lib.count S.data.toList [c] := rfl
 rw [e] at h ⊢
 have h2 : List.map (fun x : ByteArray => x.data.toList) (Lib.splitB ⟨#[c]⟩ 0 (Lib.count S.data.toList [c]) S) = cutB c S.data.toList := h.trans (splitK_cut c _)
 rw [← h2, List.map_map]
 conv => lhs; rw [← List.map_id (Lib.splitB _ _ _ _)]
 refine List.map_congr_left fun x _ => ?_
 exact ba_ext (by rw [Function.comp, bS_list]; rfl)
theorem cutB_count (c : UInt8) (S : ByteArray) : Lib.countB S ⟨#[c]⟩ + 1 = (cutB c S.data.toList).length := by
 rw [← Lib.splitB_all ⟨#[c]⟩ (Nat.le_refl 1) 0 _ S rfl, splitB_cut, List.length_map]
def SpC (w : World) : Prop := ∃ m : Int, w.cell? ⟨laysSplit_ren.g 1, 0, none⟩ = some (.int .i64 m)
theorem SpC.bw {w w' : World} (h : SpC w) (hb : BW w w') : SpC w' := h.elim fun m h => ⟨m, hb.cell h⟩
theorem split_any (S : ByteArray) (c : UInt8) (hS : S.size ≤ 1000000) (w : World) (hC : SpC w) :
  Calls Tryz.prog 20 #[.string S, .string ⟨#[c]⟩] w fun e w' => e = .returned (.slice (some ⟨w.heap.size, 0, none⟩) (cutB c S.data.toList).length (cutB c S.data.toList).length) ∧ w' = w.alloc (.cells ((cutB c S.data.toList).map fun x => Value.string (bS x)).toArray 9) := by
 obtain ⟨m, hm⟩ := hC
 have X := Any.strings_Split { laysSplit with } laysSplit.i9 S ⟨#[c]⟩ m w (by omega) hm (Nat.le_refl 1)
 rw [splitB_cut, cutB_count, List.map_map] at X
 exact X
end Go.Proofs.YtafhnlnhflehhaaGreatDoor
