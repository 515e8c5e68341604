/-  -/
import Derived.Test.YtojedpahaifjgaaGEi
import Derived.Laws.BitsAllLaws
namespace Go.Proofs.Ytojedpahaifjgaa
open Go.RowKit
theorem byte_all (p : Int → Bool) (h : (List.range 256).all (fun n => p (n : Nat)) = true) (x : Int) (h0 : 0 ≤ x) (h1 : x ≤ 255) : p x = true := by
 obtain ⟨n, rfl⟩ := Int.eq_ofNat_of_zero_le h0
 exact List.all_eq_true.1 h n (List.mem_range.2 (by omega))
theorem b72 (x : Int) (h0 : 0 ≤ x) (h1 : x ≤ 255) : bits .and .u8 x 72 ≠ 0 ↔ (x / 64 % 2 = 1 ∨ x / 8 % 2 = 1) := by
 have := byte_all (fun x => decide (bits .and .u8 x 72 ≠ 0 ↔ (x / 64 % 2 = 1 ∨ x / 8 % 2 = 1))) (by decide +kernel) x h0 h1
 exact of_decide_eq_true this
theorem b128 (x : Int) (h0 : 0 ≤ x) (h1 : x ≤ 255) : bits .and .u8 x 128 ≠ 0 ↔ 128 ≤ x := by
 have := byte_all (fun x => decide (bits .and .u8 x 128 ≠ 0 ↔ 128 ≤ x)) (by decide +kernel) x h0 h1
 exact of_decide_eq_true this
theorem b15 (x : Int) (h0 : 0 ≤ x) (h1 : x ≤ 255) : bits .and .u8 x 15 ≠ 0 ↔ 0 < x % 16 := by
 have := byte_all (fun x => decide (bits .and .u8 x 15 ≠ 0 ↔ 0 < x % 16)) (by decide +kernel) x h0 h1
 exact of_decide_eq_true this
theorem b64 (x : Int) (h0 : 0 ≤ x) (h1 : x ≤ 255) : bits .and .u8 x 64 ≠ 0 ↔ x / 64 % 2 = 1 := by
 have := byte_all (fun x => decide (bits .and .u8 x 64 ≠ 0 ↔ x / 64 % 2 = 1)) (by decide +kernel) x h0 h1
 exact of_decide_eq_true this
theorem b48 (x : Int) (h0 : 0 ≤ x) (h1 : x ≤ 255) : bits .and .u8 x 48 ≠ 0 ↔ (x / 32 % 2 = 1 ∨ x / 16 % 2 = 1) := by
 have := byte_all (fun x => decide (bits .and .u8 x 48 ≠ 0 ↔ (x / 32 % 2 = 1 ∨ x / 16 % 2 = 1))) (by decide +kernel) x h0 h1
 exact of_decide_eq_true this
theorem b16 (x : Int) (h0 : 0 ≤ x) (h1 : x ≤ 255) : (bits .and .u8 x 16 != 0) = (x / 16 % 2 == 1) := by
 have := byte_all (fun x => (bits .and .u8 x 16 != 0) == (x / 16 % 2 == 1)) (by decide +kernel) x h0 h1
 simpa using this
theorem b7 (x : Int) (h0 : 0 ≤ x) (h1 : x ≤ 255) : bits .and .u8 x 7 = x % 8 := by
 have := byte_all (fun x => bits .and .u8 x 7 == x % 8) (by decide +kernel) x h0 h1
 simpa using this
theorem b1 (x : Int) (h0 : 0 ≤ x) (h1 : x ≤ 255) : bits .and .u8 x 1 = x % 2 := by
 have := byte_all (fun x => bits .and .u8 x 1 == x % 2) (by decide +kernel) x h0 h1
 simpa using this
theorem b0 (x : Int) (h0 : 0 ≤ x) (h1 : x ≤ 255) : bits .and .u8 x 0 = 0 := by
 have := byte_all (fun x => bits .and .u8 x 0 == 0) (by decide +kernel) x h0 h1
 simpa using this
theorem bnot (x : Int) (h0 : 128 ≤ x) (h1 : x ≤ 255) : bits .andNot .u8 x 128 = x - 128 := by
 have := byte_all (fun x => decide (128 ≤ x → bits .andNot .u8 x 128 = x - 128)) (by decide +kernel) x (by omega) h1
 exact of_decide_eq_true this h0
theorem pic_eq (n m : Int) (h0 : 128 ≤ n) (h1 : n ≤ 255) (h2 : 0 ≤ m) (h3 : m ≤ 255) : picN n m = (n - 128) * 256 + m := by
 unfold picN
 rw [bnot n h0 h1, IntWalk.u16_in (n - 128) (by omega), IntWalk.u16_in ((n - 128) * 256) (by omega), IntWalk.u16_in m (by omega), u16_or _ _ (by omega) (by omega) (by omega) (by omega)]
 rw [nat_join 8 _ _ (by omega) (by omega)]
 omega
theorem nx_err (l : List Int) (er : Int) (a : Nat) (z : Int) (h : er ≠ 0) : nx l er a z = (er, a, 0) := by unfold nx; rw [if_pos h]
theorem nx_short (l : List Int) (a : Nat) (z : Int) (h : l.length ≤ a) : nx l 0 a z = (2, a, 0) := by unfold nx; rw [if_neg (by simp), if_pos h]
theorem nx_form (l : List Int) (a : Nat) (z : Int) (h : a < l.length) (hb : bits .and .u8 (l.getD a 0) z ≠ 0) : nx l 0 a z = (3, a, 0) := by unfold nx; rw [if_neg (by simp), if_neg (by omega), if_pos hb]
theorem nx_ok (l : List Int) (a : Nat) (z : Int) (h : a < l.length) (hb : ¬ bits .and .u8 (l.getD a 0) z ≠ 0) : nx l 0 a z = (0, a + 1, l.getD a 0) := by unfold nx; rw [if_neg (by simp), if_neg (by omega), if_neg hb]
theorem bz (z : Int) (hz : z = 128 ∨ z = 64 ∨ z = 48) : ¬ bits .and .u8 0 z ≠ 0 := by
 rcases hz with rfl | rfl | rfl <;> decide
theorem step_err (l : List Int) (s er : Int) (a : Nat) (h : er ≠ 0) : ∀ j, stepD l s (er, a) j = (er, a)
 | 0 => rfl
 | j + 1 => by
  have e : ∀ z : Int, (if bits .and .u8 s z ≠ 0 then ((nx l er a 0).1, (nx l er a 0).2.1) else (er, a)) = (er, a) := by
   intro z
   split
   ·rw [nx_err l er a 0 h]
   ·rfl
  rw [stepD, step_err l s er a h j]
  exact e _
theorem vC_err (l : List Int) (er f : Int) (a : Nat) (h : er ≠ 0) : (vC l (er, a, f) picN).1 = (er, a) := by
 unfold vC
 split
 ·simp only [nx_err l er a 0 h]
  rw [if_neg (bz 128 (by simp))]
 ·rfl
theorem out_err (l : List Int) (er f g : Int) (a : Nat) (h : er ≠ 0) : vpFin l g (vC l (er, a, f) picN) (stepD l f (vC l (er, a, f) picN).1 2) = (vpZero, 0, er) := by
 rw [vC_err l er f a h, step_err l f er a h]
 unfold vpFin
 rw [if_pos h]; rfl
theorem step_two (l : List Int) (s : Int) (a : Nat) (h0 : 0 ≤ s) (h1 : s ≤ 255) (hr : ∀ i, 0 ≤ l.getD i 0 ∧ l.getD i 0 ≤ 255) (ha : a ≤ l.length) :
  stepD l s (0, a) 2 = (if l.length < rAt4 s (rAt3 s a) then 2 else 0, if l.length < rAt4 s (rAt3 s a) then min (rAt3 s a) l.length else rAt4 s (rAt3 s a)) := by
 have hz : ∀ i, ¬ bits .and .u8 (l.getD i 0) 0 ≠ 0 := fun i => by rw [b0 _ (hr i).1 (hr i).2]; simp
 have e1 : stepD l s (0, a) 1 = (if l.length < rAt3 s a then 2 else 0, if l.length < rAt3 s a then a else rAt3 s a) := by
  rw [stepD, stepD, if_pos rfl]
  unfold rAt3
  by_cases h : s / 64 % 2 = 1
  ·rw [if_pos ((b64 s h0 h1).2 h), if_pos h]
   by_cases hl : l.length ≤ a
   ·rw [nx_short _ _ _ hl, if_pos (by omega), if_pos (by omega)]
   ·rw [nx_ok _ _ _ (by omega) (hz a), if_neg (by omega), if_neg (by omega)]
  ·rw [if_neg (fun c => h ((b64 s h0 h1).1 c)), if_neg h, if_neg (by omega), if_neg (by omega)]
 have e2 : stepD l s (0, a) 2 = (if bits .and .u8 s 48 ≠ 0 then ((nx l (stepD l s (0, a) 1).1 (stepD l s (0, a) 1).2 0).1, (nx l (stepD l s (0, a) 1).1 (stepD l s (0, a) 1).2 0).2.1) else stepD l s (0, a) 1) := rfl
 rw [e2, e1]
 clear e1 e2
 by_cases hp : l.length < rAt3 s a
 ·have h3 : rAt3 s a = a + 1 := by
   unfold rAt3 at hp ⊢; split at hp <;> simp_all; omega
  have h4 : l.length < rAt4 s (rAt3 s a) := by unfold rAt4; split <;> omega
  simp only [if_pos hp, if_pos h4]
  rw [nx_err l 2 a 0 (by decide)]
  rw [ite_self, show min (rAt3 s a) l.length = a by omega]
 ·simp only [if_neg hp]
  generalize rAt3 s a = p at *
  unfold rAt4
  by_cases h : s / 32 % 2 = 1 ∨ s / 16 % 2 = 1
  ·rw [if_pos ((b48 s h0 h1).2 h), if_pos h]
   by_cases hl : l.length ≤ p
   ·rw [nx_short _ _ _ hl, if_pos (by omega), if_pos (by omega)]
    rw [show min p l.length = p by omega]
   ·rw [nx_ok _ _ _ (by omega) (hz p), if_neg (by omega), if_neg (by omega)]
  ·rw [if_neg (fun c => h ((b48 s h0 h1).1 c)), if_neg h, if_neg (by omega), if_neg (by omega)]
theorem fin_ok (l : List Int) (x0 s : Int) (a : Nat) (C : Int × Bool × Bool × Int) (hx0 : l.getD 0 0 = x0) (h0 : 0 ≤ s) (h1 : s ≤ 255) (hr : ∀ i, 0 ≤ l.getD i 0 ∧ l.getD i 0 ≤ 255) (ha : a ≤ l.length) :
  vpFin l x0 ((0, a), C) (stepD l s (0, a) 2) = (if l.length < rAt4 s (rAt3 s a) then (vpZero, 0, 2)
   else (#[.bool (x0 / 16 % 2 == 1), .int .u8 (x0 % 8), .bool C.2.1, .bool C.2.2.1, .int .u16 C.2.2.2, .bool (rKey l (rAt4 s (rAt3 s a))), .int .i64 (rAt4 s (rAt3 s a) : Nat)], C.1, 0)) := by
 rw [step_two l s a h0 h1 hr ha]
 have hx := hr 0
 rw [hx0] at hx
 unfold vpFin
 by_cases h : l.length < rAt4 s (rAt3 s a)
 ·simp only [if_pos h]
  rw [if_pos (by decide)]; rfl
 ·simp only [if_neg h]
  rw [if_neg (by decide), b16 x0 hx.1 hx.2, b7 x0 hx.1 hx.2]
  have : vpKey l x0 (rAt4 s (rAt3 s a)) = rKey l (rAt4 s (rAt3 s a)) := by
   unfold vpKey rKey
   rw [b16 x0 hx.1 hx.2, b7 x0 hx.1 hx.2, hx0, b1 _ (hr _).1 (hr _).2]
  rw [this]
theorem tail_eq (l : List Int) (x0 s : Int) (a : Nat) (hx0 : l.getD 0 0 = x0) (h0 : 0 ≤ s) (h1 : s ≤ 255) (hr : ∀ i, 0 ≤ l.getD i 0 ∧ l.getD i 0 ≤ 255) (ha : a ≤ l.length) (hs : rSec l = s) (hat : rAt1 l = a)
  (hB : rBad l = if 128 ≤ s ∧ l.length ≤ a then 2 else if 128 ≤ s ∧ 128 ≤ l.getD a 0 ∧ l.length ≤ a + 1 then 2 else 0) :
  vpFin l x0 (vC l (0, a, s) picN) (stepD l s (vC l (0, a, s) picN).1 2) = rOut l := by
 have hz : ∀ i, ¬ bits .and .u8 (l.getD i 0) 0 ≠ 0 := fun i => by rw [b0 _ (hr i).1 (hr i).2]; simp
 have hO : rBad l = 0 → rOut l = _ := fun h => by
  unfold rOut; rw [if_neg (by simp [h]), hs, hat, hx0]
 by_cases c1 : 128 ≤ s
 ·have k1 := (b128 s h0 h1).2 c1
  have r2 := hr a
  by_cases c2 : l.length ≤ a
  ·rw [if_pos ⟨c1, c2⟩] at hB
   have : vC l (0, a, s) picN = (((2 : Int), a), ((a : Nat) : Int), true, false, (0 : Int)) := by
    unfold vC; simp only [if_pos k1, nx_short l a 0 c2]
    rw [if_neg (bz 128 (by simp))]
    rfl
   rw [this, step_err l s 2 a (by decide) 2]
   unfold vpFin rOut; rw [hB, if_pos (show (2 : Int) ≠ 0 by decide), if_pos (by decide)]; rfl
  ·rw [if_neg (by omega)] at hB
   have e1 := nx_ok l a 0 (by omega) (hz a)
   by_cases c3 : 128 ≤ l.getD a 0
   ·have k3 := (b128 _ r2.1 r2.2).2 c3
    by_cases c4 : l.length ≤ a + 1
    ·rw [if_pos ⟨c1, c3, c4⟩] at hB
     have : vC l (0, a, s) picN = (((2 : Int), a + 1), ((a : Nat) : Int), true, true, picN (l.getD a 0) 0) := by
      unfold vC; simp only [if_pos k1, e1, if_pos k3, nx_short l (a + 1) 0 c4]
     rw [this, step_err l s 2 (a + 1) (by decide) 2]
     unfold vpFin rOut; rw [hB, if_pos (show (2 : Int) ≠ 0 by decide), if_pos (by decide)]; rfl
    ·rw [if_neg (by omega)] at hB
     have r3 := hr (a + 1)
     have : vC l (0, a, s) picN = (((0 : Int), a + 2), ((a : Nat) : Int), true, true, (l.getD a 0 - 128) * 256 + l.getD (a + 1) 0) := by
      unfold vC; simp only [if_pos k1, e1, if_pos k3, nx_ok l (a + 1) 0 (by omega) (hz _)]
      rw [pic_eq _ _ c3 r2.2 r3.1 r3.2]
     have hN : rNum l s a = (((a : Nat) : Int), true, true, (l.getD a 0 - 128) * 256 + l.getD (a + 1) 0, a + 2) := by
      unfold rNum; rw [if_pos c1, if_pos c3]
     rw [this, hO hB, hN]
     exact fin_ok l x0 s (a + 2) _ hx0 h0 h1 hr (by omega)
   ·rw [if_neg (by omega)] at hB
    have k3 : ¬ bits .and .u8 (l.getD a 0) 128 ≠ 0 := fun c => c3 ((b128 _ r2.1 r2.2).1 c)
    have : vC l (0, a, s) picN = (((0 : Int), a + 1), ((a : Nat) : Int), true, false, l.getD a 0) := by
     unfold vC; simp only [if_pos k1, e1, if_neg k3]
     rw [IntWalk.u16_in _ (by omega)]
    have hN : rNum l s a = (((a : Nat) : Int), true, false, l.getD a 0, a + 1) := by
     unfold rNum; rw [if_pos c1, if_neg c3]
    rw [this, hO hB, hN]
    exact fin_ok l x0 s (a + 1) _ hx0 h0 h1 hr (by omega)
 ·rw [if_neg (by omega), if_neg (by omega)] at hB
  have k1 : ¬ bits .and .u8 s 128 ≠ 0 := fun c => c1 ((b128 s h0 h1).1 c)
  have : vC l (0, a, s) picN = ((0, a), 0, false, false, 0) := by
   unfold vC; simp only [if_neg k1]
  have hN : rNum l s a = (0, false, false, 0, a) := by
   unfold rNum; rw [if_neg c1]
  rw [this, hO hB, hN]
  exact fin_ok l x0 s a _ hx0 h0 h1 hr ha
theorem vp_eq (l : List Int) (hr : ∀ i, 0 ≤ l.getD i 0 ∧ l.getD i 0 ≤ 255) : vpOut l = rOut l := by
 have hz : ∀ i, ¬ bits .and .u8 (l.getD i 0) 0 ≠ 0 := fun i => by rw [b0 _ (hr i).1 (hr i).2]; simp
 unfold vpOut
 by_cases hl : l.length < 1
 ·have hb : rBad l = 2 := by unfold rBad; rw [if_pos hl]
  rw [nx_short _ _ _ (by omega)]
  have : vB l (2, 0, 0) = (2, 0, 0) := by unfold vB; rw [if_neg (bz 128 (by simp))]
  rw [this, out_err _ _ _ _ _ (by decide)]
  unfold rOut; rw [hb, if_pos (by decide)]
 by_cases hbad : l.getD 0 0 / 64 % 2 = 1 ∨ l.getD 0 0 / 8 % 2 = 1
 ·have hb : rBad l = 3 := by unfold rBad; rw [if_neg hl, if_pos hbad]
  rw [nx_form _ _ _ (by omega) ((b72 _ (hr 0).1 (hr 0).2).2 hbad)]
  have : vB l (3, 0, 0) = (3, 0, 0) := by unfold vB; rw [if_neg (bz 128 (by simp))]
  rw [this, out_err _ _ _ _ _ (by decide)]
  unfold rOut; rw [hb, if_pos (by decide)]
 rw [nx_ok _ _ _ (by omega) (fun c => hbad ((b72 _ (hr 0).1 (hr 0).2).1 c))]
 have r0 := hr 0
 generalize hx0 : l.getD 0 0 = x0 at *
 by_cases c : 128 ≤ x0
 ·have k := (b128 x0 r0.1 r0.2).2 c
  by_cases h2 : l.length ≤ 1
  ·have hb : rBad l = 2 := by unfold rBad; rw [hx0, if_neg hl, if_neg hbad, if_pos ⟨c, by omega⟩]
   have : vB l (0, 0 + 1, x0) = (2, 1, 0) := by unfold vB; rw [if_pos k, nx_short _ _ _ (by simpa using h2)]
   rw [this, out_err _ _ _ _ _ (by decide)]
   unfold rOut; rw [hb, if_pos (by decide)]
  ·by_cases h3 : 0 < l.getD 1 0 % 16
   ·have hb : rBad l = 3 := by unfold rBad; rw [hx0, if_neg hl, if_neg hbad, if_neg (by omega), if_pos ⟨c, h3⟩]
    have : vB l (0, 0 + 1, x0) = (3, 1, 0) := by unfold vB; rw [if_pos k, nx_form _ _ _ (by omega) ((b15 _ (hr 1).1 (hr 1).2).2 h3)]
    rw [this, out_err _ _ _ _ _ (by decide)]
    unfold rOut; rw [hb, if_pos (by decide)]
   ·have : vB l (0, 0 + 1, x0) = (0, 2, l.getD 1 0) := by unfold vB; rw [if_pos k, nx_ok _ _ _ (by omega) (fun q => h3 ((b15 _ (hr 1).1 (hr 1).2).1 q))]
    have hs : rSec l = l.getD 1 0 := by unfold rSec; rw [hx0, if_pos c]
    have ha : rAt1 l = 2 := by unfold rAt1; rw [hx0, if_pos c]
    rw [this]
    refine tail_eq l x0 _ 2 hx0 (hr 1).1 (hr 1).2 hr (by omega) hs ha ?_
    unfold rBad; rw [hx0, if_neg hl, if_neg hbad, if_neg (by omega), if_neg (by omega), hs, ha]
 ·have k : ¬ bits .and .u8 x0 128 ≠ 0 := fun q => c ((b128 x0 r0.1 r0.2).1 q)
  have : vB l (0, 0 + 1, x0) = (0, 1, 0) := by unfold vB; rw [if_neg k]
  have hs : rSec l = 0 := by unfold rSec; rw [hx0, if_neg c]
  have ha : rAt1 l = 1 := by unfold rAt1; rw [hx0, if_neg c]
  rw [this]
  refine tail_eq l x0 0 1 hx0 (by decide) (by decide) hr (by omega) hs ha ?_
  unfold rBad; rw [hx0, if_neg hl, if_neg hbad, if_neg (by omega), if_neg (by omega), hs, ha]
end Go.Proofs.Ytojedpahaifjgaa

namespace Go.Proofs.Ytojedpahaifjgaa
open Go.RowKit
set_option maxRecDepth 100000 in
set_option maxHeartbeats 1000000 in
theorem Read_any (l : List Int) (sa : Option Addr) (ln cp : Nat) (w : World) (hl : SlB w sa ln cp l) (b0 : Bool) (n1 : Int) (b2 b3 : Bool) (n4 : Int) (b5 : Bool) (n6 : Int) (pl er : Int) (ho : Hid (vpOut l = (#[.bool b0, .int .u8 n1, .bool b2, .bool b3, .int .u16 n4, .bool b5, .int .i64 n6], pl, er))) :
  Calls Try.prog 84 #[.slice sa ln cp] w fun r w' => r = .returned (.tuple #[.agg #[.bool b0, .int .u8 n1, .bool b2, .bool b3, .int .u16 n4, .bool b5, .int .i64 n6], .int .i64 er]) ∧ Below w.heap.size w w' := by
 have hL := (Below.refl w.heap.size w).alloc (Nat.le_refl _) (.cells #[.bool false, .int .u8 0, .bool false, .bool false, .int .u16 0, .bool false, .int .i64 0] 65)
 have hr := Lib.hid (read_any l sa ln cp _ (hl.below hL))
 have hcell : ∀ (i : Nat) (v : Value), #[Value.bool false, .int .u8 0, .bool false, .bool false, .int .u16 0, .bool false, .int .i64 0][i]? = some v → (w.alloc (.cells #[.bool false, .int .u8 0, .bool false, .bool false, .int .u16 0, .bool false, .int .i64 0] 65)).cell? ⟨w.heap.size, i, none⟩ = some v := fun i v h => by simpa [go_sem] using h
 have hfz : (w.alloc (.cells #[.bool false, .int .u8 0, .bool false, .bool false, .int .u16 0, .bool false, .int .i64 0] 65)).frozen? ⟨w.heap.size, 0, none⟩ = false := by simp [go_sem]
 clear hl
 replace hcell := Lib.hid hcell
 replace hfz := Lib.hid hfz
 go_enter Try.func84, Try.ntmps84
 go_wp2_with fail
 refine hr.out.mono ?_
 rintro r w1 ⟨rfl, hb⟩
 rw [ho.out]
 dsimp only
 have hz : w.heap.size < (w.alloc (.cells #[.bool false, .int .u8 0, .bool false, .bool false, .int .u16 0, .bool false, .int .i64 0] 65)).heap.size := by simp
 have hblk : w1.heap[w.heap.size]? = some (.cells #[.bool false, .int .u8 0, .bool false, .bool false, .int .u16 0, .bool false, .int .i64 0] 65) := by
  rw [hb.block _ hz]; show (w.heap.push _)[w.heap.size]? = _; simp
 have L1 := hL.trans (hb.mono (by simp))
 have hz1 : w.heap.size < w1.heap.size := by have := hb.size; simp at this; omega
 have hcs : ∀ i v, #[Value.bool false, .int .u8 0, .bool false, .bool false, .int .u16 0, .bool false, .int .i64 0][i]? = some v → w1.cell? ⟨w.heap.size, i, none⟩ = some v := fun i v h => by simp only [World.cell?, hblk]; simpa using h
 have hc0 := hcs 0 _ rfl
 have hc1 := hcs 1 _ rfl
 have hc2 := hcs 2 _ rfl
 have hc3 := hcs 3 _ rfl
 have hc4 := hcs 4 _ rfl
 have hc5 := hcs 5 _ rfl
 have hc6 := hcs 6 _ rfl
 have hfr : ∀ i, w1.frozen? ⟨w.heap.size, i, none⟩ = false := fun i => by simp only [World.frozen?, hblk]; simp
 clear hcs hblk hb hr ho hcell hfz hL
 go_wp2_with fail
 exact bodyPost_ret (v := .tuple #[.agg #[.bool b0, .int .u8 n1, .bool b2, .bool b3, .int .u16 n4, .bool b5, .int .i64 n6], .int .i64 er]) (by simp [results, Try.results84, go_sem, *]) rfl ⟨rfl, by repeat (first | (with_reducible exact L1) | (with_reducible refine Below.alloc ?_ (by simp; omega) _) | (with_reducible refine Below.set3 ?_ (Nat.le_refl _) _))⟩
def PayT (l : List Int) : Prop := ∃ (b0 : Bool) (n1 : Int) (b2 b3 : Bool) (n4 : Int) (b5 : Bool) (n6 pl er : Int), vpOut l = (#[.bool b0, .int .u8 n1, .bool b2, .bool b3, .int .u16 n4, .bool b5, .int .i64 n6], pl, er)
theorem payT (l : List Int) : PayT l := by
 unfold PayT vpOut vpFin
 split
 ·exact ⟨_, _, _, _, _, _, _, _, _, rfl⟩
 ·exact ⟨_, _, _, _, _, _, _, _, _, rfl⟩
theorem Ref_any (l : List Int) (sa : Option Addr) (ln cp : Nat) (w : World) (hl : SlB w sa ln cp l) : Calls Try.prog 13 #[.slice sa ln cp] w (rPost l w) := by
 by_cases h : l.length < 1
 ·exact ref_empty l sa ln cp w hl h
 ·have hlen := hl.len
  obtain ⟨h1, h2, h3, h4, h5⟩ := hl
  rcases h5 with h5 | ⟨b, o, rfl, hlt, hc⟩
  ·omega
  ·subst h1
   exact ref_any l b o cp w (by omega) hlen hlt (Lib.hid hc) (Lib.hid (getD_range h4))
end Go.Proofs.Ytojedpahaifjgaa

namespace Go.Proofs.Ytojedpahaifjgaa
open Go.RowKit
def turnN (l : List Int) (p : Int) (wide : Bool) : List Int := if wide then (l.set 2 (p / 256 % 128 + 128)).set 3 (p % 256) else l.set 2 (p % 128)
theorem turnN_len (l : List Int) (p : Int) (wd : Bool) : (turnN l p wd).length = l.length := by unfold turnN; split <;> simp
theorem turnN_mem {l : List Int} (h : ∀ x ∈ l, 0 ≤ x ∧ x ≤ 255) (p : Int) (wd : Bool) : ∀ x ∈ turnN l p wd, 0 ≤ x ∧ x ≤ 255 := by
 unfold turnN
 intro x hx
 split at hx
 ·rcases List.mem_or_eq_of_mem_set hx with hx | hx
  ·rcases List.mem_or_eq_of_mem_set hx with hx | hx
   ·exact h x hx
   ·subst hx; omega
  ·subst hx; omega
 ·rcases List.mem_or_eq_of_mem_set hx with hx | hx
  ·exact h x hx
  ·subst hx; omega
theorem turnN_ne {l : List Int} {p : Int} {wd : Bool} {i : Nat} (h2 : i ≠ 2) (h3 : wd = true → i ≠ 3) : (turnN l p wd).getD i 0 = l.getD i 0 := by
 unfold turnN
 simp only [List.getD_eq_getElem?_getD]
 split
 ·rw [List.getElem?_set_ne (by have := h3 ‹_›; omega), List.getElem?_set_ne (by omega)]
 ·rw [List.getElem?_set_ne (by omega)]
theorem turnN_two {l : List Int} {p : Int} {wd : Bool} (h : 2 < l.length) : (turnN l p wd).getD 2 0 = if wd then p / 256 % 128 + 128 else p % 128 := by
 unfold turnN
 simp only [List.getD_eq_getElem?_getD]
 split
 ·rw [List.getElem?_set_ne (by omega), List.getElem?_set_self h]; rfl
 ·rw [List.getElem?_set_self h]; rfl
theorem turnN_three {l : List Int} {p : Int} (h : 3 < l.length) : (turnN l p true).getD 3 0 = p % 256 := by
 unfold turnN
 simp only [List.getD_eq_getElem?_getD, if_true]
 rw [List.getElem?_set_self (by simpa using h)]; rfl
theorem has_place (l : List Int) (hb : rBad l = 0) (hh : 128 ≤ rSec l) : 128 ≤ l.getD 0 0 ∧ rSec l = l.getD 1 0 ∧ rAt1 l = 2 ∧ 2 < l.length ∧ (128 ≤ l.getD 2 0 → 3 < l.length) := by
 have h0 : 128 ≤ l.getD 0 0 := by
  unfold rSec at hh; split at hh <;> omega
 have h1 : rSec l = l.getD 1 0 := by unfold rSec; rw [if_pos h0]
 have h2 : rAt1 l = 2 := by unfold rAt1; rw [if_pos h0]
 refine ⟨h0, h1, h2, ?_, ?_⟩ <;>
 ·unfold rBad at hb
  rw [h2] at hb
  repeat (split at hb <;> try (simp at hb; done))
  omega
theorem turn_law (l : List Int) (hr : ∀ x ∈ l, 0 ≤ x ∧ x ≤ 255) (p : Int) (hp : 0 ≤ p) (b0 : Bool) (n1 : Int) (wd : Bool) (n4 : Int) (b5 : Bool) (n6 pl : Int)
  (ho : rOut l = (#[.bool b0, .int .u8 n1, .bool true, .bool wd, .int .u16 n4, .bool b5, .int .i64 n6], pl, 0)) :
  pl = 2 ∧ 2 < l.length ∧ (wd = true → 3 < l.length) ∧
  rOut (turnN l p wd) = (#[.bool b0, .int .u8 n1, .bool true, .bool wd, .int .u16 (if wd then p % 32768 else p % 128), .bool b5, .int .i64 n6], 2, 0) := by
 unfold rOut at ho
 by_cases hb : rBad l = 0
 ·rw [if_neg (by simp [hb])] at ho
  by_cases hs : l.length < rAt4 (rSec l) (rAt3 (rSec l) (rNum l (rSec l) (rAt1 l)).2.2.2.2)
  ·rw [if_pos hs] at ho; simp at ho
  rw [if_neg hs] at ho
  by_cases hh : 128 ≤ rSec l
  ·obtain ⟨k0, k1, k2, k3, k4⟩ := has_place l hb hh
   have hN : rNum l (rSec l) (rAt1 l) = if 128 ≤ l.getD 2 0 then ((2 : Int), true, true, (l.getD 2 0 - 128) * 256 + l.getD (2 + 1) 0, 2 + 2) else ((2 : Int), true, false, l.getD 2 0, 2 + 1) := by
    unfold rNum; rw [if_pos hh, k2]; rfl
   have t0 : (turnN l p wd).getD 0 0 = l.getD 0 0 := turnN_ne (by omega) (fun _ => by omega)
   have t1 : (turnN l p wd).getD 1 0 = l.getD 1 0 := turnN_ne (by omega) (fun _ => by omega)
   have tsec : rSec (turnN l p wd) = rSec l := by unfold rSec; rw [t0, t1]
   have tat : rAt1 (turnN l p wd) = 2 := by unfold rAt1; rw [t0, if_pos k0]
   have tlen := turnN_len l p wd
   have t2 := turnN_two (l := l) (p := p) (wd := wd) k3
   by_cases hw : 128 ≤ l.getD 2 0
   ·rw [if_pos hw] at hN
    rw [hN] at ho hs
    simp only [Prod.mk.injEq, Array.mk.injEq, List.cons.injEq, Value.bool.injEq, Value.int.injEq, and_true, true_and] at ho
    obtain ⟨⟨e0, e1, e3, e4, e5, e6⟩, e7⟩ := ho
    subst e3
    have l3 := k4 hw
    rw [if_pos rfl] at t2
    have t3 := turnN_three (l := l) (p := p) l3
    have tN : rNum (turnN l p true) (rSec l) 2 = ((2 : Int), true, true, p % 32768, 4) := by
     unfold rNum; rw [if_pos hh, t2, if_pos (by omega), t3]
     congr 4
     omega
    have tB : rBad (turnN l p true) = 0 := by
     unfold rBad at hb ⊢
     rw [tsec, tat, tlen, t0, t1, t2]
     rw [k2] at hb
     repeat (split at hb <;> try (simp at hb; done))
     rw [if_neg (by omega), if_neg (by assumption), if_neg (by omega), if_neg (by omega), if_neg (by omega), if_neg (by omega)]
    refine ⟨e7.symm, k3, fun _ => l3, ?_⟩
    unfold rOut
    rw [if_neg (by simp [tB]), tsec, tat, tN, tlen, if_neg hs, t0]
    have tK : rKey (turnN l p true) (rAt4 (rSec l) (rAt3 (rSec l) 4)) = rKey l (rAt4 (rSec l) (rAt3 (rSec l) 4)) := by
     have : 4 ≤ rAt4 (rSec l) (rAt3 (rSec l) 4) := by unfold rAt4 rAt3; split <;> split <;> omega
     unfold rKey
     rw [t0, tlen, turnN_ne (by omega) (fun _ => by omega)]
    rw [tK, e0, e1, e5, e6]
    simp
   ·rw [if_neg hw] at hN
    rw [hN] at ho hs
    simp only [Prod.mk.injEq, Array.mk.injEq, List.cons.injEq, Value.bool.injEq, Value.int.injEq, and_true, true_and] at ho
    obtain ⟨⟨e0, e1, e3, e4, e5, e6⟩, e7⟩ := ho
    subst e3
    rw [if_neg (by simp)] at t2
    have tN : rNum (turnN l p false) (rSec l) 2 = ((2 : Int), true, false, p % 128, 3) := by
     unfold rNum; rw [if_pos hh, t2, if_neg (by omega)]; rfl
    have tB : rBad (turnN l p false) = 0 := by
     unfold rBad at hb ⊢
     rw [tsec, tat, tlen, t0, t1, t2]
     rw [k2] at hb
     repeat (split at hb <;> try (simp at hb; done))
     rw [if_neg (by omega), if_neg (by assumption), if_neg (by omega), if_neg (by omega), if_neg (by omega), if_neg (by omega)]
    refine ⟨e7.symm, k3, fun h => by simp at h, ?_⟩
    unfold rOut
    rw [if_neg (by simp [tB]), tsec, tat, tN, tlen, if_neg hs, t0]
    have tK : rKey (turnN l p false) (rAt4 (rSec l) (rAt3 (rSec l) 3)) = rKey l (rAt4 (rSec l) (rAt3 (rSec l) 3)) := by
     have : 3 ≤ rAt4 (rSec l) (rAt3 (rSec l) 3) := by unfold rAt4 rAt3; split <;> split <;> omega
     unfold rKey
     rw [t0, tlen, turnN_ne (by omega) (fun h => by simp at h)]
    rw [tK, e0, e1, e5, e6]
    simp
  ·have hN : rNum l (rSec l) (rAt1 l) = (0, false, false, 0, rAt1 l) := by unfold rNum; rw [if_neg hh]
   rw [hN] at ho
   simp at ho
 ·rw [if_pos hb] at ho
  simp at ho; omega
end Go.Proofs.Ytojedpahaifjgaa
