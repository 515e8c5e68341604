/- Numbers as bytes; counters; the bytes of a stream. Nothing of the program; no condition. stream: xor, First, Next; the reference's First, Plus. No condition. Counters: stream.Next, the reference's Plus, First. No condition. -/
import Derived.Test.YtikmhlbpefednaaGreatGKi
import Derived.Test.YtikmhlbpefednaaGreatGBa
import Derived.Test.YtikmhlbpefednaaGreatGRn
import Derived.Test.YtikmhlbpefednaaGreatGAa
import Derived.Test.YtikmhlbpefednaaGreatGAr
import Derived.Test.YtikmhlbpefednaaGreatGW6
namespace Go.Proofs.YtikmhlbpefednaaGreat
open Go.RowKit
def ctrK (c : List Nat) (n k : Nat) : List Nat := c.take (16 - k) ++ putB k (numB (c.drop (16 - k)) + n)
def ctrN (c : List Nat) (n k : Nat) : Nat := (numB (c.drop (16 - k)) + n) / 256 ^ k
theorem ctrK_zero (c : List Nat) (n : Nat) (hc : c.length = 16) : ctrK c n 0 = c := by
 unfold ctrK
 rw [Nat.sub_zero, List.take_of_length_le (by omega)]; simp [putB]
theorem ctrN_zero (c : List Nat) (n : Nat) (hc : c.length = 16) : ctrN c n 0 = n := by
 unfold ctrN
 rw [Nat.sub_zero, List.drop_of_length_le (by omega)]; simp [numB]
theorem ctrK_all (c : List Nat) (n : Nat) : ctrK c n 16 = putB 16 (numB c + n) := by simp [ctrK]
theorem ctrK_len (c : List Nat) (n k : Nat) (hc : c.length = 16) (hk : k ≤ 16) : (ctrK c n k).length = 16 := by
 unfold ctrK
 rw [List.length_append, List.length_take, putB_len]; omega
theorem ctr_low (c : List Nat) (k : Nat) (hc : c.length = 16) (hk : k < 16) : c.drop (16 - (k + 1)) = c.getD (15 - k) 0 :: c.drop (16 - k) := by
 rw [show 16 - (k + 1) = 15 - k by omega, List.drop_eq_getElem_cons (by omega), show 15 - k + 1 = 16 - k by omega]
 simp [List.getD_eq_getElem?_getD, List.getElem?_eq_getElem (show 15 - k < c.length by omega)]
theorem ctr_num (c : List Nat) (k : Nat) (hc : c.length = 16) (hk : k < 16) : numB (c.drop (16 - (k + 1))) = 256 ^ k * c.getD (15 - k) 0 + numB (c.drop (16 - k)) := by
 rw [ctr_low c k hc hk, numB_cons, List.length_drop, show c.length - (16 - k) = k by omega]
theorem ctrK_get (c : List Nat) (n k : Nat) (hc : c.length = 16) (hk : k < 16) : (ctrK c n k).getD (15 - k) 0 = c.getD (15 - k) 0 := by
 unfold ctrK
 rw [List.getD_eq_getElem?_getD, List.getElem?_append_left (by rw [List.length_take]; omega), List.getElem?_take, if_pos (by omega), List.getD_eq_getElem?_getD]
theorem ctr_step (c : List Nat) (n k : Nat) (hc : c.length = 16) (hk : k < 16) :
  (ctrK c n k).set (15 - k) ((ctrN c n k + c.getD (15 - k) 0) % 256) = ctrK c n (k + 1) ∧ (ctrN c n k + c.getD (15 - k) 0) / 256 = ctrN c n (k + 1) := by
 have hs : ctrN c n k + c.getD (15 - k) 0 = (numB (c.drop (16 - (k + 1))) + n) / 256 ^ k := by
  unfold ctrN
  rw [ctr_num c k hc hk, Nat.add_assoc, Nat.mul_add_div (Nat.pow_pos (by decide)), Nat.add_comm]
 rw [hs]
 constructor
 ·unfold ctrK
  rw [putB_cons, ctr_num c k hc hk, Nat.add_assoc, Nat.mul_comm (256 ^ k), putB_add k _ k (Nat.le_refl _), show 16 - k = (15 - k) + 1 by omega, List.take_succ_eq_append_getElem (by omega), List.append_assoc, show 16 - (k + 1) = 15 - k by omega]
  rw [List.set_append_right _ _ (by rw [List.length_take]; omega), List.length_take, show 15 - k - min (15 - k) c.length = 0 by omega]
  rfl
 ·unfold ctrN
  rw [Nat.pow_succ, Nat.div_div_eq_div_mul]
theorem ctr_end (c : List Nat) (n k : Nat) (hc : c.length = 16) (hb : ByL c) (hk : k ≤ 16) (h0 : ctrN c n k = 0) : ctrK c n k = putB 16 (numB c + n) := by
 have hz : numB (c.drop (16 - k)) + n < 256 ^ k := by
  unfold ctrN at h0
  exact (Nat.div_eq_zero_iff.1 h0).resolve_left (Nat.ne_of_gt (Nat.pow_pos (by decide)))
 have e1 : numB c = numB (c.take (16 - k)) * 256 ^ k + numB (c.drop (16 - k)) := by
  conv => lhs; rw [← List.take_append_drop (16 - k) c]
  rw [numB_append, List.length_drop, show c.length - (16 - k) = k by omega]
 have e2 : (c.take (16 - k)).length = 16 - k := by rw [List.length_take]; omega
 have e3 := putB_split k (numB (c.take (16 - k))) _ hz (16 - k)
 rw [show 16 - k + k = 16 by omega] at e3
 rw [e1, Nat.add_assoc, e3]
 unfold ctrK
 congr 1
 have := putB_numB (c.take (16 - k)) (hb.take _)
 rw [e2] at this
 exact this.symm
def xorAt (n : Nat) (c : List Nat) (at_ : Nat) (b : List Nat) : List Nat := tab n fun j => c.getD j 0 ^^^ (if at_ ≤ j then b.getD (j - at_) 0 else 0)
theorem xorAt_len (n : Nat) (c : List Nat) (a : Nat) (b : List Nat) : (xorAt n c a b).length = n := tab_len _ _
theorem xorAt_nil (n : Nat) (c : List Nat) (a : Nat) (hc : c.length = n) : xorAt n c a [] = c := by
 unfold xorAt
 conv => rhs; rw [← tab_of n c hc]
 exact tab_congr _ _ _ fun j _ => by simp
theorem xorAt_get (n : Nat) (c : List Nat) (a : Nat) (b : List Nat) (i : Nat) (hi : a + i < n) : (xorAt n c a (b.take i)).getD (a + i) 0 = c.getD (a + i) 0 := by
 unfold xorAt
 rw [tab_get _ _ _ hi, if_pos (by omega), Nat.add_sub_cancel_left]
 simp [List.getD_eq_getElem?_getD, List.getElem?_take]
theorem xorAt_step (n : Nat) (c : List Nat) (a : Nat) (b : List Nat) (i : Nat) (hi : a + i < n) (hb : i < b.length) : (xorAt n c a (b.take i)).set (a + i) (c.getD (a + i) 0 ^^^ b.getD i 0) = xorAt n c a (b.take (i + 1)) := by
 refine tab_set n _ _ (a + i) _ hi ?_ fun j hj hne => ?_
 ·rw [if_pos (by omega), Nat.add_sub_cancel_left]
  simp [List.getD_eq_getElem?_getD, List.getElem?_take]
 ·congr 1
  by_cases h : a ≤ j
  ·rw [if_pos h, if_pos h]
   simp only [List.getD_eq_getElem?_getD, List.getElem?_take]
   by_cases h2 : j - a < i
   ·rw [if_pos h2, if_pos (by omega)]
   ·rw [if_neg h2, if_neg (by omega)]
  ·rw [if_neg h, if_neg h]
theorem xorAt_byt (n : Nat) (c : List Nat) (a : Nat) (b : List Nat) (hc : Byt c) (hb : Byt b) : Byt (xorAt n c a b) := by
 refine Byt.tab _ _ fun j _ => ?_
 split
 ·exact Nat.xor_lt_two_pow (n := 8) (hc j) (hb _)
 ·simpa using hc j
theorem byt_of {l : List Nat} (h : ByL l) : Byt l := fun i => h.get i
theorem byl_of {l : List Nat} (h : Byt l) : ByL l := fun x hx => by
 obtain ⟨i, hi⟩ := List.mem_iff_getElem?.1 hx
 have := h i
 rw [List.getD_eq_getElem?_getD, hi] at this
 exact this
def strm (W : List Nat) (x n : Nat) : List Nat := (List.range n).map fun i => (blockN W (putB 16 (x + i / 16))).getD (i % 16) 0
def cipN (W : List Nat) (x : Nat) (l : List Nat) : List Nat := (List.range l.length).map fun i => l.getD i 0 ^^^ (blockN W (putB 16 (x + i / 16))).getD (i % 16) 0
theorem strm_len (W : List Nat) (x n : Nat) : (strm W x n).length = n := by simp [strm]
theorem strm_take (W : List Nat) (x n k : Nat) (h : k ≤ n) : (strm W x n).take k = strm W x k := by
 unfold strm
 rw [← List.map_take, List.take_range, Nat.min_eq_left h]
theorem blockN_len (W b : List Nat) : (blockN W b).length = 16 := keyN_len _ _ _
theorem strm_block (W : List Nat) (x q : Nat) : strm W x (16 * q) ++ blockN W (putB 16 (x + q)) = strm W x (16 * (q + 1)) := by
 unfold strm
 rw [show 16 * (q + 1) = 16 * q + 16 by omega, List.range_add, List.map_append, List.map_map]
 congr 1
 refine List.ext_getElem (by simp [blockN_len]) fun i h1 h2 => ?_
 rw [blockN_len] at h1
 simp only [List.getElem_map, List.getElem_range, Function.comp]
 rw [show (16 * q + i) / 16 = q by omega, show (16 * q + i) % 16 = i by omega]
 simp [List.getD_eq_getElem?_getD, List.getElem?_eq_getElem (show i < (blockN W (putB 16 (x + q))).length by rw [blockN_len]; exact h1)]
theorem strm_get (W : List Nat) (x n i : Nat) (h : i < n) : (strm W x n).getD i 0 = (blockN W (putB 16 (x + i / 16))).getD (i % 16) 0 := by
 simp [strm, List.getD_eq_getElem?_getD, h]
theorem cipN_len (W : List Nat) (x : Nat) (l : List Nat) : (cipN W x l).length = l.length := by simp [cipN]
theorem cipN_snoc (W : List Nat) (x : Nat) (l : List Nat) (k : Nat) (h : k < l.length) : cipN W x (l.take k) ++ [l.getD k 0 ^^^ (blockN W (putB 16 (x + k / 16))).getD (k % 16) 0] = cipN W x (l.take (k + 1)) := by
 unfold cipN
 rw [List.length_take, List.length_take, Nat.min_eq_left (by omega), Nat.min_eq_left (by omega), List.range_succ, List.map_append]
 simp only [List.map_cons, List.map_nil]
 congr 1
 ·refine List.map_congr_left fun i hi => ?_
  have := List.mem_range.1 hi
  simp only [List.getD_eq_getElem?_getD, List.getElem?_take]
  rw [if_pos this, if_pos (by omega)]
 ·simp [List.getD_eq_getElem?_getD, List.getElem?_take]
theorem cipN_twice (W : List Nat) (x : Nat) (l : List Nat) : cipN W x (cipN W x l) = l := by
 refine List.ext_getElem (by simp [cipN]) fun i h1 h2 => ?_
 simp only [cipN, List.getElem_map, List.getElem_range, List.getD_eq_getElem?_getD]
 rw [List.getElem?_map, List.getElem?_range (by simpa using h2)]
 simp [List.getElem?_eq_getElem h2, Nat.xor_assoc]
theorem cipN_zeros (W : List Nat) (x n : Nat) : cipN W x (List.replicate n 0) = strm W x n := by
 unfold cipN strm
 rw [List.length_replicate]
 refine List.map_congr_left fun i hi => ?_
 simp [List.getD_eq_getElem?_getD, List.getElem?_replicate, List.mem_range.1 hi]
def mixK (W : List Nat) (x : Nat) (l : List Nat) (k : Nat) : List Nat := cipN W x (l.take k) ++ (strm W x l.length).drop k
theorem mixK_zero (W : List Nat) (x : Nat) (l : List Nat) : mixK W x l 0 = strm W x l.length := by simp [mixK, cipN]
theorem mixK_all (W : List Nat) (x : Nat) (l : List Nat) : mixK W x l l.length = cipN W x l := by
 unfold mixK
 rw [List.take_of_length_le (Nat.le_refl _), List.drop_of_length_le (by rw [strm_len]; exact Nat.le_refl _), List.append_nil]
theorem mixK_get (W : List Nat) (x : Nat) (l : List Nat) (k : Nat) (h : k < l.length) : (mixK W x l k).getD k 0 = (blockN W (putB 16 (x + k / 16))).getD (k % 16) 0 := by
 rw [← strm_get W x l.length k h]
 unfold mixK
 have hl : (cipN W x (l.take k)).length = k := by rw [cipN_len, List.length_take]; omega
 rw [List.getD_eq_getElem?_getD, List.getElem?_append_right (by omega), hl, Nat.sub_self, List.getElem?_drop, Nat.add_zero, List.getD_eq_getElem?_getD]
theorem mixK_set (W : List Nat) (x : Nat) (l : List Nat) (k : Nat) (h : k < l.length) : (mixK W x l k).set k ((blockN W (putB 16 (x + k / 16))).getD (k % 16) 0 ^^^ l.getD k 0) = mixK W x l (k + 1) := by
 have hl : (cipN W x (l.take k)).length = k := by rw [cipN_len, List.length_take]; omega
 unfold mixK
 rw [List.set_append_right _ _ (by omega), hl, Nat.sub_self, ← cipN_snoc W x l k h, List.append_assoc, List.drop_eq_getElem_cons (by rw [strm_len]; exact h), List.set_cons_zero, Nat.xor_comm]
 rfl
end Go.Proofs.YtikmhlbpefednaaGreat

namespace Go.Proofs.YtikmhlbpefednaaGreat
open Go.RowKit
theorem ar14 : ArT 23 14 := ⟨⟨_, Tryz.underlying23, rfl, rfl⟩, by kernel_rfl, fun w => by kernel_rfl⟩
set_option maxRecDepth 100000 in
set_option maxHeartbeats 8000000 in
theorem sxor_ok (c : List Nat) (at_ : Nat) (a : Int) (ha : a = (at_ : Nat)) (sb : Option Addr) (n cb : Nat) (b : List Nat) (hc : c.length = 16) (hcb : Byt c) (hfit : at_ + n ≤ 16) (w : World) (hv : SB w (.slice sb n cb) n b) :
  Calls Tryz.prog 91 #[.agg (ivA .u8 c), .int .i64 a, .slice sb n cb] w fun e w' => e = .returned (.agg (ivA .u8 (xorAt 16 c at_ b))) ∧ Below w.heap.size w w' := by
 subst ha
 have hbl := Lib.hid hv.1
 have hbb := Lib.hid (byt_of hv.2.1)
 have u := hv.unpack
 have u1 := u.1
 have u2 := u.2.1
 clear u
 replace hc := Lib.hid hc
 replace hcb := Lib.hid hcb
 replace hv := Lib.hid hv
 have B := Lib.hid (BW.refl w)
 go_enter Tryz.func91, Tryz.ntmps91
 go_wp2_with (refine alA ar16 rfl rfl ?_)
 have H1 := Lib.hid ((AvB.new w 22 c).bw ((BW.refl _).alloc (o := .cells (ivA .u8 (zeros 16)) 22)))
 have H2 := Lib.hid (AvB.new (w.alloc (.cells (ivA .u8 c) 22)) 22 (zeros 16))
 rw [World.size_alloc] at H2
 generalize hnm : (w.alloc (.cells (ivA .u8 c) 22)).alloc (.cells (ivA .u8 (zeros 16)) 22) = w1 at *
 have hb : BW w w1 := (by subst hnm; exact (by repeat (first | exact BW.refl _ | apply BW.alloc | apply BW.drewN | apply BW.drew)))
 replace B := Lib.hid (B.out.trans hb)
 clear hb
 clear hnm
 go_loopg [11] n (fun m' i wx => ∃ k : Nat, m' = n - k ∧ k ≤ n ∧ i = .int .i64 (k : Nat) ∧ Hid (AvB wx w.heap.size 22 (xorAt 16 c at_ (b.take k))) ∧ Hid (AvB wx (w.heap.size + 1) 22 (zeros 16)) ∧ Hid (BW w wx))
 case atStart => exact ⟨0, by omega, by omega, rfl, by rw [List.take_zero, xorAt_nil 16 c at_ hc.out]; exact H1, H2, B⟩
 case round =>
  clear H1 H2 B
  obtain ⟨k, rfl, hk, rfl, H1, H2, B⟩ := hrel
  by_cases hkn : k < n
  ·obtain ⟨g, o, cap, he, _, _, _, hcell⟩ := (hv.out.bw B.out).form (by omega)
   cases he
   have hx := hcell k hkn
   have e1 := Lib.hid (xorAt_step 16 c at_ b k (by omega) (by rw [hbl.out]; exact hkn))
   have hc1 := H1.out.cell (at_ + k) (by rw [xorAt_len]; omega)
   rw [xorAt_get 16 c at_ b k (by omega)] at hc1
   have hf1 := H1.out.frz (at_ + k)
   have hy1 := hcb.out (at_ + k)
   have hy2 := hbb.out k
   generalize c.getD (at_ + k) 0 = y1 at *
   generalize b.getD k 0 = y2 at *
   have hX := u8_xor_nat y1 y2 hy1 hy2
   have H3 := Lib.hid (H1.out.set (at_ + k) (y1 ^^^ y2))
   rw [e1.out] at H3
   have H4 := Lib.hid (H2.out.setO (b := w.heap.size) (o := at_ + k) (by omega) (.int .u8 (y1 ^^^ y2 : Nat)))
   have B4 := Lib.hid (B.out.set (g := w.heap.size) (o := at_ + k) (Nat.le_refl _) (v := .int .u8 (y1 ^^^ y2 : Nat)))
   clear hcell H1 H2 B
   go_wp2_with fail
   go_roundg (n - (k + 1))
   case measure => omega
   case rel => exact ⟨k + 1, rfl, by omega, by go_num, H3, H4, B4⟩
  ·obtain rfl : k = n := by omega
   rw [List.take_of_length_le (by rw [hbl.out]; exact Nat.le_refl _)] at H1
   have B4 := Lib.hid (B.out.row (g := w.heap.size + 1) (by omega) (ivA .u8 (xorAt 16 c at_ b)))
   have H4 := Lib.hid (H2.out.row (xorAt 16 c at_ b))
   go_wp2_with (first | (refine ldA ar16 rfl rfl rfl H1.out (xorAt_len _ _ _ _) ?_) | (refine stR ar16 rfl rfl rfl rfl H2.out (zeros_len _) (xorAt_len _ _ _ _) ?_))
   exact bodyPost_ret (results_cell_row (p := 6) rfl _ _ (w.heap.size + 1) _ _ _ _ rfl H4.out Tryz.underlying22 rfl (by rw [ar16.hi, ivA_size, xorAt_len])) rfl ⟨rfl, B4.out⟩
def firstN (salt : List Nat) (s x : Nat) : List Nat := xorAt 16 (xorAt 16 (xorAt 16 (zeros 16) 0 salt) 4 (putB 4 s)) 8 (putB 6 x)
theorem zeros_byt (n : Nat) : Byt (zeros n) := fun i => by
 simp only [zeros, List.getD_eq_getElem?_getD, List.getElem?_replicate]
 split <;> simp
theorem putB_byt' (n x : Nat) : Byt (putB n x) := byt_of (putB_byt n x)
set_option maxRecDepth 100000 in
set_option maxHeartbeats 8000000 in
theorem first_ok (salt : List Nat) (s x : Nat) (hs : salt.length = 14) (hb : ByL salt) (h4 : s < 4294967296) (h6 : x < 18446744073709551616) (w : World) :
  Calls Tryz.prog 69 #[.agg (ivA .u8 salt), .int .u32 (s : Nat), .int .u64 (x : Nat)] w fun e w' => e = .returned (.agg (ivA .u8 (firstN salt s x))) ∧ Below w.heap.size w w' := by
 have hF : Hid (firstN salt s x = xorAt 16 (xorAt 16 (xorAt 16 (zeros 16) 0 salt) 4 (putB 4 s)) 8 (putB 6 x)) := rfl
 have X1l := Lib.hid (xorAt_len 16 (zeros 16) 0 salt)
 have X1b := Lib.hid (xorAt_byt 16 (zeros 16) 0 salt (zeros_byt 16) (byt_of hb))
 have X2l := Lib.hid (xorAt_len 16 (xorAt 16 (zeros 16) 0 salt) 4 (putB 4 s))
 have X2b := Lib.hid (xorAt_byt 16 (xorAt 16 (zeros 16) 0 salt) 4 (putB 4 s) X1b.out (putB_byt' 4 s))
 have X3l := Lib.hid (xorAt_len 16 (xorAt 16 (xorAt 16 (zeros 16) 0 salt) 4 (putB 4 s)) 8 (putB 6 x))
 have c1 := Lib.hid (sxor_ok (zeros 16) 0 0 rfl (hc := zeros_len 16) (hcb := zeros_byt 16) (b := salt))
 have c2 := Lib.hid (sxor_ok (xorAt 16 (zeros 16) 0 salt) 4 4 rfl (hc := X1l.out) (hcb := X1b.out) (b := putB 4 s))
 have c3 := Lib.hid (sxor_ok (xorAt 16 (xorAt 16 (zeros 16) 0 salt) 4 (putB 4 s)) 8 8 rfl (hc := X2l.out) (hcb := X2b.out) (b := putB 6 x))
 rw [← hF.out] at c3 X3l
 generalize firstN salt s x = X3 at *
 generalize xorAt 16 (xorAt 16 (zeros 16) 0 salt) 4 (putB 4 s) = X2 at *
 generalize xorAt 16 (zeros 16) 0 salt = X1 at *
 replace hs := Lib.hid hs
 replace hb := Lib.hid hb
 have B := Lib.hid (BW.refl w)
 go_enter Tryz.func69, Tryz.ntmps69
 go_wp2_with (refine alA ar16 rfl rfl ?_)
 have S0 := Lib.hid ((AvB.new w 23 salt).bw (((BW.refl _).alloc (o := .cells (ivA .u8 (zeros 16)) 22)).alloc (o := .cells (ivA .u8 (zeros 16)) 22)))
 have R0 := Lib.hid ((AvB.new (w.alloc (.cells (ivA .u8 salt) 23)) 22 (zeros 16)).bw ((BW.refl _).alloc (o := .cells (ivA .u8 (zeros 16)) 22)))
 have C0 := Lib.hid (AvB.new ((w.alloc (.cells (ivA .u8 salt) 23)).alloc (.cells (ivA .u8 (zeros 16)) 22)) 22 (zeros 16))
 simp only [World.size_alloc] at R0 C0
 generalize hnm : ((w.alloc (.cells (ivA .u8 salt) 23)).alloc (.cells (ivA .u8 (zeros 16)) 22)).alloc (.cells (ivA .u8 (zeros 16)) 22) = w1 at *
 have hb : BW w w1 := (by subst hnm; exact (by repeat (first | exact BW.refl _ | apply BW.alloc | apply BW.drewN | apply BW.drew)))
 replace B := Lib.hid (B.out.trans hb)
 clear hb
 clear hnm
 obtain ⟨r0, er, lr⟩ : ∃ r, w.heap.size + 1 = r ∧ w.heap.size ≤ r := ⟨_, rfl, by omega⟩
 obtain ⟨c0, ec, lc, nc⟩ : ∃ c, w.heap.size + 1 + 1 = c ∧ w.heap.size ≤ c ∧ r0 ≠ c := ⟨_, rfl, by omega, by omega⟩
 rw [er] at R0
 rw [ec] at C0
 try simp only [Act.put, List.setIfInBounds_toArray, List.set_cons_succ, List.set_cons_zero]
 simp only [World.size_alloc]
 simp only [ec]
 simp only [er]
 clear ec er
 generalize hws : w.heap.size = ws at S0 ⊢
 replace hws := Lib.hid hws
 refine wp_region_gg [] [] [3] (by kernel_rfl) ?_
 refine hoist [] [] (a1 := ?_) 0 rfl (by kernel_rfl) (.inl ⟨rfl, rfl⟩) rfl rfl rfl (fun x K hK => ?_) ?_
 rotate_left
 ·refine qlA ar16 rfl rfl (zeros_len 16) (fun w' hw => by subst hw; exact C0.out.bw x.bw) (by simp only [Act.put, List.setIfInBounds_toArray, List.set_cons_succ, List.set_cons_zero]; rfl) ?_
  exact hK
 refine hoist [] [] (a1 := ?_) 1 rfl (by kernel_rfl) (.inl ⟨rfl, rfl⟩) rfl rfl rfl (fun x K hK => ?_) ?_
 rotate_left
 ·go_big_quiet_op
  exact hK
 refine effect 2 rfl (by kernel_rfl) (by kernel_rfl) rfl (fun x2 K hK => ?_)
 go_simp
 refine Calls.mono (c1.out _ 14 _ (by decide) _ ((S0.out.bw x2.bw).sb hb.out 14 hs.out (by decide))) ?_
 rintro e w2 ⟨rfl, hb2⟩
 refine hK _ _ (Still.of_below hb2) ?_
 clear hK K
 have hb : BW w1 w2 := (x2.bw.call hb2)
 replace B := Lib.hid (B.out.trans hb)
 replace R0 := Lib.hid (R0.out.bw hb)
 replace C0 := Lib.hid (C0.out.bw hb)
 clear hb
 try simp only [Act.put, List.setIfInBounds_toArray, List.set_cons_succ, List.set_cons_zero]
 refine tail 3 rfl (by kernel_rfl) rfl (fun xr => ?_)
 simp only [List.drop_succ_cons, List.drop_zero]
 have C1 := Lib.hid ((C0.out.bw xr.bw).row X1)
 have R1 := Lib.hid ((R0.out.bw xr.bw).rowO nc (ivA .u8 X1))
 have B1 := Lib.hid ((B.out.trans xr.bw).row lc (ivA .u8 X1))
 have C0x := C0.out.bw xr.bw
 clear R0 C0 B
 go_upto_region 3 with (refine stR ar16 rfl rfl rfl rfl C0x (zeros_len 16) X1l.out ?_)
 clear C0x
 generalize xr.now.setRow c0 (ivA .u8 X1) = w3 at *
 clear S0
 try simp only [Act.put, List.setIfInBounds_toArray, List.set_cons_succ, List.set_cons_zero]
 refine wp_region_gg [] [] [5] (by kernel_rfl) ?_
 refine hoist [] [] (a1 := ?_) 0 rfl (by kernel_rfl) (.inl ⟨rfl, rfl⟩) rfl rfl rfl (fun x K hK => ?_) ?_
 rotate_left
 ·refine qlA ar16 rfl rfl X1l.out (fun w' hw => by subst hw; exact C1.out.bw x.bw) (by simp only [Act.put, List.setIfInBounds_toArray, List.set_cons_succ, List.set_cons_zero]; rfl) ?_
  exact hK
 refine hoist [] [] (a1 := ?_) 1 rfl (by kernel_rfl) (.inl ⟨rfl, rfl⟩) rfl rfl rfl (fun x K hK => ?_) ?_
 rotate_left
 ·go_big_quiet_op
  exact hK
 refine hoist [] [] (a1 := ?_) 2 rfl (by kernel_rfl) (.inl ⟨rfl, rfl⟩) rfl rfl rfl (fun x K hK => ?_) ?_
 rotate_left
 ·go_big_quiet_op
  exact hK
 refine effect 3 rfl (by kernel_rfl) (by kernel_rfl) rfl (fun x3 K hK => ?_)
 go_simp
 refine Calls.mono (put_ok (.slice none 0 0) 0 [] 4 s 4 (by decide) (by decide) rfl (by omega) (by decide) _ (OB.nil x3.now 0 5).sb) ?_
 rintro e w4 ⟨v4, rfl, O4, hb4⟩
 simp only [Nat.zero_add, List.nil_append] at O4
 obtain ⟨s4, k4, rfl, _, _⟩ := O4.len
 replace O4 := Lib.hid O4
 refine hK _ _ (Still.of_below hb4) ?_
 clear hK K
 have hb : BW w3 w4 := (x3.bw.call hb4)
 replace B1 := Lib.hid (B1.out.trans hb)
 replace R1 := Lib.hid (R1.out.bw hb)
 replace C1 := Lib.hid (C1.out.bw hb)
 clear hb
 try simp only [Act.put, List.setIfInBounds_toArray, List.set_cons_succ, List.set_cons_zero]
 refine effect 4 rfl (by kernel_rfl) (by kernel_rfl) rfl (fun x4 K hK => ?_)
 go_simp
 refine Calls.mono (c2.out _ 4 _ (by decide) _ (O4.out.bw x4.bw).sb) ?_
 rintro e w5 ⟨rfl, hb5⟩
 refine hK _ _ (Still.of_below hb5) ?_
 clear hK K O4
 have hb : BW w4 w5 := (x4.bw.call hb5)
 replace B1 := Lib.hid (B1.out.trans hb)
 replace R1 := Lib.hid (R1.out.bw hb)
 replace C1 := Lib.hid (C1.out.bw hb)
 clear hb
 try simp only [Act.put, List.setIfInBounds_toArray, List.set_cons_succ, List.set_cons_zero]
 refine tail 5 rfl (by kernel_rfl) rfl (fun xr => ?_)
 simp only [List.drop_succ_cons, List.drop_zero]
 have C2 := Lib.hid ((C1.out.bw xr.bw).row X2)
 have R2 := Lib.hid ((R1.out.bw xr.bw).rowO nc (ivA .u8 X2))
 have B2 := Lib.hid ((B1.out.trans xr.bw).row lc (ivA .u8 X2))
 have C0x := C1.out.bw xr.bw
 clear R1 C1 B1
 go_upto_region 4 with (refine stR ar16 rfl rfl rfl rfl C0x X1l.out X2l.out ?_)
 clear C0x
 generalize xr.now.setRow c0 (ivA .u8 X2) = w6 at *
 try simp only [Act.put, List.setIfInBounds_toArray, List.set_cons_succ, List.set_cons_zero]
 refine wp_region_gg [] [] [4] (by kernel_rfl) ?_
 refine hoist [] [] (a1 := ?_) 0 rfl (by kernel_rfl) (.inl ⟨rfl, rfl⟩) rfl rfl rfl (fun x K hK => ?_) ?_
 rotate_left
 ·refine qlA ar16 rfl rfl X2l.out (fun w' hw => by subst hw; exact C2.out.bw x.bw) (by simp only [Act.put, List.setIfInBounds_toArray, List.set_cons_succ, List.set_cons_zero]; rfl) ?_
  exact hK
 refine hoist [] [] (a1 := ?_) 1 rfl (by kernel_rfl) (.inl ⟨rfl, rfl⟩) rfl rfl rfl (fun x K hK => ?_) ?_
 rotate_left
 ·go_big_quiet_op
  exact hK
 refine effect 2 rfl (by kernel_rfl) (by kernel_rfl) rfl (fun x2 K hK => ?_)
 go_simp
 refine Calls.mono (put_ok (.slice none 0 0) 0 [] 6 x 6 (by decide) (by decide) rfl (by omega) (by decide) _ (OB.nil x2.now 0 5).sb) ?_
 rintro e w7 ⟨v7, rfl, O7, hb7⟩
 simp only [Nat.zero_add, List.nil_append] at O7
 obtain ⟨s7, k7, rfl, _, _⟩ := O7.len
 replace O7 := Lib.hid O7
 refine hK _ _ (Still.of_below hb7) ?_
 clear hK K
 have hb : BW w6 w7 := (x2.bw.call hb7)
 replace B2 := Lib.hid (B2.out.trans hb)
 replace R2 := Lib.hid (R2.out.bw hb)
 clear hb
 try simp only [Act.put, List.setIfInBounds_toArray, List.set_cons_succ, List.set_cons_zero]
 refine effect 3 rfl (by kernel_rfl) (by kernel_rfl) rfl (fun x3 K hK => ?_)
 go_simp
 refine Calls.mono (c3.out _ 6 _ (by decide) _ (O7.out.bw x3.bw).sb) ?_
 rintro e w8 ⟨rfl, hb8⟩
 refine hK _ _ (Still.of_below hb8) ?_
 clear hK K O7
 have hb : BW w7 w8 := (x3.bw.call hb8)
 replace B2 := Lib.hid (B2.out.trans hb)
 replace R2 := Lib.hid (R2.out.bw hb)
 clear hb
 try simp only [Act.put, List.setIfInBounds_toArray, List.set_cons_succ, List.set_cons_zero]
 refine tail 4 rfl (by kernel_rfl) rfl (fun xr => ?_)
 simp only [List.drop_succ_cons, List.drop_zero]
 have B3 := Lib.hid ((B2.out.trans xr.bw).row lr (ivA .u8 X3))
 have H4 := Lib.hid ((R2.out.bw xr.bw).row X3)
 have C0x := R2.out.bw xr.bw
 go_wp2_with (refine stR ar16 rfl rfl rfl rfl C0x (zeros_len 16) X3l.out ?_)
 exact bodyPost_ret (results_cell_row (p := 6) rfl _ _ _ _ _ _ _ rfl H4.out Tryz.underlying22 rfl (by rw [ar16.hi, ivA_size, X3l.out])) rfl ⟨rfl, B3.out⟩
end Go.Proofs.YtikmhlbpefednaaGreat

namespace Go.Proofs.YtikmhlbpefednaaGreat
open Go.RowKit
set_option maxRecDepth 100000 in
set_option maxHeartbeats 8000000 in
theorem next_ok (c : List Nat) (hc : c.length = 16) (hb : ByL c) (w : World) :
  Calls Tryz.prog 142 #[.agg (ivA .u8 c)] w fun e w' => e = .returned (.agg (ivA .u8 (putB 16 (numB c + 1)))) ∧ Below w.heap.size w w' := by
 have hall := Lib.hid (ctrK_all c 1)
 have hend := Lib.hid (ctr_end c 1)
 have hPl := Lib.hid (putB_len 16 (numB c + 1))
 generalize putB 16 (numB c + 1) = P at *
 replace hc := Lib.hid hc
 replace hb := Lib.hid hb
 have B := Lib.hid (BW.refl w)
 go_enter Tryz.func142, Tryz.ntmps142
 go_wp2_with (refine alA ar16 rfl rfl ?_)
 have H1 := Lib.hid ((AvB.new w 22 c).bw (show BW (w.alloc (.cells (ivA .u8 c) 22)) ((w.alloc (.cells (ivA .u8 c) 22)).alloc (.cells (ivA .u8 (zeros 16)) 22)) from (by repeat (first | exact BW.refl _ | apply BW.alloc | apply BW.drewN | apply BW.drew))))
 have H2 := Lib.hid ((AvB.new (w.alloc (.cells (ivA .u8 c) 22)) 22 (zeros 16)).bw (show BW ((w.alloc (.cells (ivA .u8 c) 22)).alloc (.cells (ivA .u8 (zeros 16)) 22)) ((w.alloc (.cells (ivA .u8 c) 22)).alloc (.cells (ivA .u8 (zeros 16)) 22)) from (by repeat (first | exact BW.refl _ | apply BW.alloc | apply BW.drewN | apply BW.drew))))
 simp only [World.size_alloc] at H2
 generalize hnm : ((w.alloc (.cells (ivA .u8 c) 22)).alloc (.cells (ivA .u8 (zeros 16)) 22)) = w1 at *
 have hb : BW w w1 := (by subst hnm; exact (by repeat (first | exact BW.refl _ | apply BW.alloc | apply BW.drewN | apply BW.drew)))
 replace B := Lib.hid (B.out.trans hb)
 clear hb
 clear hnm
 try simp only [World.size_alloc]
 go_loopg [3] 16 (fun m' i wx => ∃ r : Nat, r = m' ∧ r ≤ 16 ∧ i = .int .i64 ((r : Nat) - 1 : Int) ∧ Hid (AvB wx w.heap.size 22 (ctrK c 1 (16 - r))) ∧ Hid (ctrN c 1 (16 - r) = 1) ∧ Hid (AvB wx (w.heap.size + 1) 22 (zeros 16)) ∧ Hid (BW w wx))
 case atStart => exact ⟨16, rfl, by omega, rfl, by rw [Nat.sub_self, ctrK_zero c 1 hc.out]; exact H1, ctrN_zero c 1 hc.out, H2, B⟩
 case round =>
  clear H1 H2 B
  obtain ⟨r, rfl, hr, hi, H1, N1, H2, B⟩ := hrel
  cases r with
  | zero =>
   rw [show ((0 : Nat) : Int) - 1 = -1 from rfl] at hi
   subst hi
   rw [Nat.sub_zero, hall.out] at H1
   have H4 := Lib.hid (H2.out.row P)
   go_wp2_with (first | (refine ldA ar16 rfl rfl rfl H1.out hPl.out ?_) | (refine stR ar16 rfl rfl rfl rfl H2.out (zeros_len _) hPl.out ?_))
   exact bodyPost_ret (results_cell_row (p := 2) rfl _ _ _ _ _ _ _ rfl H4.out Tryz.underlying22 rfl (by rw [ar16.hi, ivA_size, hPl.out])) rfl ⟨rfl, B.out.row (by omega) _⟩
  | succ j =>
   rw [show ((j + 1 : Nat) : Int) - 1 = (j : Int) by omega] at hi
   subst hi
   obtain ⟨s1, s2⟩ := ctr_step c 1 (16 - (j + 1)) hc.out (by omega)
   have g1 := ctrK_get c 1 (16 - (j + 1)) hc.out (by omega)
   have hl := Lib.hid (ctrK_len c 1 (16 - (j + 1)) hc.out (by omega))
   have hl2 := Lib.hid (ctrK_len c 1 (16 - j) hc.out (by omega))
   have hE := Lib.hid (hend.out (16 - j) hc.out hb.out (by omega))
   have hc1 := H1.out.cell j (by rw [hl.out]; omega)
   have hf1 := H1.out.frz j
   have hyb := hb.out.get j
   rw [N1.out, show 15 - (16 - (j + 1)) = j by omega, show 16 - (j + 1) + 1 = 16 - j by omega] at s1 s2
   rw [show 15 - (16 - (j + 1)) = j by omega] at g1
   rw [g1] at hc1
   generalize c.getD j 0 = y at *
   have hz : ((y : Int) + 1) % 256 = ((1 + y) % 256 : Nat) := by omega
   have hz2 : (1 + y) % 256 < 256 := Nat.mod_lt _ (by decide)
   have hz3 : ¬ ((1 + y) % 256 = 0) → (1 + y) / 256 = 0 := by omega
   have hz4 : (1 + y) % 256 = 0 → (1 + y) / 256 = 1 := by omega
   have H3 := Lib.hid (H1.out.set j ((1 + y) % 256))
   rw [s1] at H3
   have H4 := Lib.hid (H2.out.setO (b := w.heap.size) (o := j) (by omega) (.int .u8 ((1 + y) % 256 : Nat)))
   have B4 := Lib.hid (B.out.set (g := w.heap.size) (o := j) (Nat.le_refl _) (v := .int .u8 ((1 + y) % 256 : Nat)))
   have c3 := H3.out.cell j (by rw [hl2.out]; omega)
   have c3' : (ctrK c 1 (16 - j)).getD j 0 = (1 + y) % 256 := by
    rw [← s1, List.getD_eq_getElem?_getD, List.getElem?_set_self (by rw [hl.out]; omega)]; rfl
   rw [c3'] at c3
   rw [s2] at hz3 hz4
   generalize (1 + y) % 256 = z at *
   replace g1 := Lib.hid g1
   replace c3' := Lib.hid c3'
   replace s1 := Lib.hid s1
   replace s2 := Lib.hid s2
   replace hz3 := Lib.hid hz3
   replace hz4 := Lib.hid hz4
   clear H1 H2 B
   by_cases hz0 : z = 0
   ·subst hz0
    have N4 := hz4.out rfl
    replace N4 := Lib.hid N4
    have d0 : (((0 : Nat) : Int) != 0) = false := rfl
    go_wp2_with fail
    go_roundg j
    case measure => omega
    case rel => exact ⟨j, rfl, by omega, rfl, H3, N4, H4, B4⟩
   ·have ez : (z : Int) = (y : Int) + 1 := by omega
    have d0 : ((y : Int) + 1 != 0) = true := by rw [bne_iff_ne]; omega
    have y255 : (y : Int) + 1 ≤ 255 := by omega
    rw [ez] at H3 H4 B4 c3
    replace ez := Lib.hid ez
    replace hz := Lib.hid hz
    have E1 := hE.out (hz3.out hz0)
    rw [E1] at H3
    replace E1 := Lib.hid E1
    have H5 := Lib.hid (H4.out.row P)
    go_wp2_with (first | (refine ldA ar16 rfl rfl rfl H3.out hPl.out ?_) | (refine stR ar16 rfl rfl rfl rfl H4.out (zeros_len _) hPl.out ?_))
    exact bodyPost_ret (results_cell_row (p := 2) rfl _ _ _ _ _ _ _ rfl H5.out Tryz.underlying22 rfl (by rw [ar16.hi, ivA_size, hPl.out])) rfl ⟨rfl, B4.out.row (by omega) _⟩
set_option maxRecDepth 100000 in
set_option maxHeartbeats 8000000 in
theorem rplus_ok (c : List Nat) (n : Nat) (a : Int) (ha : a = (n : Nat)) (hn : n ≤ 1000000000000000000) (hc : c.length = 16) (hb : ByL c) (w : World) :
  Calls Tryz.prog 99 #[.agg (ivA .u8 c), .int .i64 a] w fun e w' => e = .returned (.agg (ivA .u8 (putB 16 (numB c + n)))) ∧ Below w.heap.size w w' := by
 subst ha
 have hall := Lib.hid (ctrK_all c n)
 have hPl := Lib.hid (putB_len 16 (numB c + n))
 generalize putB 16 (numB c + n) = P at *
 replace hc := Lib.hid hc
 replace hb := Lib.hid hb
 have B := Lib.hid (BW.refl w)
 go_enter Tryz.func99, Tryz.ntmps99
 go_wp2_with (refine alA ar16 rfl rfl ?_)
 have H1 := Lib.hid ((AvB.new w 22 c).bw (show BW (w.alloc (.cells (ivA .u8 c) 22)) ((w.alloc (.cells (ivA .u8 c) 22)).alloc (.cells (ivA .u8 (zeros 16)) 22)) from (by repeat (first | exact BW.refl _ | apply BW.alloc | apply BW.drewN | apply BW.drew))))
 have H2 := Lib.hid ((AvB.new (w.alloc (.cells (ivA .u8 c) 22)) 22 (zeros 16)).bw (show BW ((w.alloc (.cells (ivA .u8 c) 22)).alloc (.cells (ivA .u8 (zeros 16)) 22)) ((w.alloc (.cells (ivA .u8 c) 22)).alloc (.cells (ivA .u8 (zeros 16)) 22)) from (by repeat (first | exact BW.refl _ | apply BW.alloc | apply BW.drewN | apply BW.drew))))
 simp only [World.size_alloc] at H2
 generalize hnm : ((w.alloc (.cells (ivA .u8 c) 22)).alloc (.cells (ivA .u8 (zeros 16)) 22)) = w1 at *
 have hb : BW w w1 := (by subst hnm; exact (by repeat (first | exact BW.refl _ | apply BW.alloc | apply BW.drewN | apply BW.drew)))
 replace B := Lib.hid (B.out.trans hb)
 clear hb
 clear hnm
 try simp only [World.size_alloc]
 go_loopg [1, 5] 16 (fun m' v i wx => ∃ r x : Nat, r = m' ∧ r ≤ 16 ∧ i = .int .i64 ((r : Nat) - 1 : Int) ∧ v = .int .i64 (x : Nat) ∧ x ≤ 1000000000000000001 ∧ Hid (AvB wx w.heap.size 22 (ctrK c n (16 - r))) ∧ Hid (ctrN c n (16 - r) = x) ∧ Hid (AvB wx (w.heap.size + 1) 22 (zeros 16)) ∧ Hid (BW w wx))
 case atStart => exact ⟨16, n, rfl, by omega, rfl, rfl, by omega, by rw [Nat.sub_self, ctrK_zero c n hc.out]; exact H1, ctrN_zero c n hc.out, H2, B⟩
 case round =>
  clear H1 H2 B
  obtain ⟨r, x, rfl, hr, hi, rfl, hx, H1, N1, H2, B⟩ := hrel
  cases r with
  | zero =>
   rw [show ((0 : Nat) : Int) - 1 = -1 from rfl] at hi
   subst hi
   rw [Nat.sub_zero, hall.out] at H1
   have H4 := Lib.hid (H2.out.row P)
   go_wp2_with (first | (refine ldA ar16 rfl rfl rfl H1.out hPl.out ?_) | (refine stR ar16 rfl rfl rfl rfl H2.out (zeros_len _) hPl.out ?_))
   exact bodyPost_ret (results_cell_row (p := 4) rfl _ _ _ _ _ _ _ rfl H4.out Tryz.underlying22 rfl (by rw [ar16.hi, ivA_size, hPl.out])) rfl ⟨rfl, B.out.row (by omega) _⟩
  | succ j =>
   rw [show ((j + 1 : Nat) : Int) - 1 = (j : Int) by omega] at hi
   subst hi
   obtain ⟨s1, s2⟩ := ctr_step c n (16 - (j + 1)) hc.out (by omega)
   have g1 := ctrK_get c n (16 - (j + 1)) hc.out (by omega)
   have hl := Lib.hid (ctrK_len c n (16 - (j + 1)) hc.out (by omega))
   have hc1 := H1.out.cell j (by rw [hl.out]; omega)
   have hf1 := H1.out.frz j
   have hyb := hb.out.get j
   rw [N1.out, show 15 - (16 - (j + 1)) = j by omega, show 16 - (j + 1) + 1 = 16 - j by omega] at s1 s2
   rw [show 15 - (16 - (j + 1)) = j by omega] at g1
   rw [g1] at hc1
   generalize c.getD j 0 = y at *
   have hz : ((x : Int) + y) % 256 = ((x + y) % 256 : Nat) := by omega
   have hz5 : ((x : Int) + y) / 256 = ((x + y) / 256 : Nat) := by omega
   have hz2 : (x + y) % 256 < 256 := Nat.mod_lt _ (by decide)
   have hz6 : (((x + y) % 256 : Nat) : Int) < 256 := by omega
   have hq : (x + y) / 256 ≤ 1000000000000000001 := by omega
   have H3 := Lib.hid (H1.out.set j ((x + y) % 256))
   rw [s1] at H3
   have H4 := Lib.hid (H2.out.setO (b := w.heap.size) (o := j) (by omega) (.int .u8 ((x + y) % 256 : Nat)))
   have B4 := Lib.hid (B.out.set (g := w.heap.size) (o := j) (Nat.le_refl _) (v := .int .u8 ((x + y) % 256 : Nat)))
   generalize (x + y) % 256 = z at *
   have s2' := Lib.hid s2
   generalize hqq : (x + y) / 256 = q at *
   replace g1 := Lib.hid g1
   replace s1 := Lib.hid s1
   replace hqq := Lib.hid hqq
   clear H1 H2 B s2
   go_wp2_with fail
   go_roundg j
   case measure => omega
   case rel => exact ⟨j, q, rfl, by omega, rfl, congrArg _ hz5, hq, H3, s2'.out.symm, H4, B4⟩
end Go.Proofs.YtikmhlbpefednaaGreat
