/- mac: a copy of bytes, zeros behind, the key's block, each byte turned. No condition but the sizes'. mac: the key's block. No condition but the sizes'. slices.Grow of nothing, slices.Concat of bytes. No condition but the sizes'. mac.Tag, mac.Check. No condition but the sizes'. -/
import Derived.Test.YtikmhlbpefednaaGreatGSh
import Derived.Test.YtikmhlbpefednaaGreatSlz
import Derived.Test.YtikmhlbpefednaaGreatCln
import Derived.Test.YtikmhlbpefednaaGreatGW6
namespace Go.Proofs.YtikmhlbpefednaaGreat
open Go.RowKit
theorem zU8 : ∃ i, Tryz.prog.info? 5 = some i ∧ i.zero = some (.int .u8 0) ∧ i.size = 1 ∧ i.bytes = 1 := by
 have h : (Tryz.prog.info? 5).map (fun i => (i.zero, i.size, i.bytes)) = some (some (.int .u8 0), 1, 1) := by kernel_rfl
 cases hi : Tryz.prog.info? 5 with
 | none => simp [hi] at h
 | some i =>
  simp only [hi, Option.map_some, Option.some.injEq, Prod.mk.injEq] at h
  exact ⟨i, rfl, h.1, h.2.1, h.2.2⟩
theorem wpList_apOBz {ops : Array Oper} {rest : List Oper} {o : Oper} {a : Act} {w : World} {Q : Exit → Act → World → Prop} (hgd : o.guard = none) (s x : Operand)
  (ho : o.op = .call { callee := .builtin .append, args := #[s, x], argTypes := #[35, 3] }) (base : Nat) (v : Value) (n : Nat) (l : List Nat) (hs : a.eval s = v) (hown : OB w base 5 v n l) (k : Nat) (hx : a.eval x = .int .i64 k)
  (hsz : n + k ≤ 1000000000000) (hbase : base ≤ w.heap.size)
  (h : ∀ sa cap w', n + k ≤ cap → cap ≤ maxLen → OB w' base 5 (.slice sa (n + k) cap) (n + k) (l ++ List.replicate k 0) → Still v.ownBlock.toList w w' → Below base w w' → (∀ j, (Value.slice sa (n + k) cap).ownBlock = some j → v.ownBlock = some j ∨ w.heap.size ≤ j) → wpList Tryz.prog ops Q rest (a.put o.dst (.slice sa (n + k) cap)) w') : wpList Tryz.prog ops Q (o :: rest) a w := by
 refine wpList_plain hgd fun _ hK => ?_
 have key := fun ty => run_append_ob_zeros (P := Tryz.prog) w Tryz.underlying35 zU8 (tn := 3) Tryz.underlying3 ty base v n l hown k hsz hbase
 obtain ⟨v', w', h1, h2, h3, h4⟩ := key 0
 obtain ⟨sa, cap, rfl, hc, hm⟩ := h2.len
 refine wp_append_run 35 3 s x ho v (.int .i64 k) _ hs hx (fun ty => by rw [← h1]; rfl) (hK _ _ (h sa cap w' hc hm h2 (Still.of_row h3) (Ows.grown hbase (Nat.le_refl _) hown.2.2 h3) h4))
def xorl (l : List Nat) (c : Nat) : List Nat := l.map fun x => x ^^^ c
def xk (l : List Nat) (c k : Nat) : List Nat := xorl (l.take k) c ++ l.drop k
theorem xk_get (l : List Nat) (c k : Nat) (h : k < l.length) : (xk l c k).getD k 0 = l.getD k 0 := by
 unfold xk xorl
 rw [List.getD_eq_getElem?_getD, List.getElem?_append_right (by simp; omega)]
 simp only [List.length_map, List.length_take, List.getElem?_drop, List.getD_eq_getElem?_getD]
 congr 2; omega
theorem xk_set (l : List Nat) (c k : Nat) (h : k < l.length) : (xk l c k).set k (l.getD k 0 ^^^ c) = xk l c (k + 1) := by
 unfold xk xorl
 have hl : ((l.take k).map fun x => x ^^^ c).length = k := by simp; omega
 rw [List.set_append_right _ _ (by omega), hl, Nat.sub_self, List.drop_eq_getElem_cons h, List.set_cons_zero, List.take_succ_eq_append_getElem h, List.map_append, List.append_assoc, List.getD_eq_getElem?_getD, List.getElem?_eq_getElem h]
 rfl
set_option maxRecDepth 100000 in
set_option maxHeartbeats 2000000 in
theorem with_ok (sa : Option Addr) (ln cp : Nat) (l : List Nat) (c : Nat) (hc : c < 256) (hn : ln ≤ 1000000000000) (w : World) (hv : SB w (.slice sa ln cp) ln l) :
  Calls Tryz.prog 95 #[.slice sa ln cp, .int .u8 (c : Nat)] w fun e w' => ∃ v, e = .returned v ∧ OB w' w.heap.size 5 v ln (xorl l c) ∧ Below w.heap.size w w' := by
 have hll := Lib.hid hv.1
 have hlb := Lib.hid hv.2.1
 have cl := Lib.hid (clone_ok sa ln cp l hn w hv)
 clear hv
 go_enter Tryz.func95, Tryz.ntmps95
 go_wp2_with fail
 refine cl.out.mono ?_
 rintro e w1 ⟨v, rfl, O1, B1⟩
 obtain ⟨s1, c1, rfl, hc1, hm1⟩ := O1.len
 unfold maxLen at hm1
 replace O1 := Lib.hid O1
 replace B1 := Lib.hid B1
 clear cl
 dsimp only
 go_wp2_with fail
 go_loopg [11] ln (fun m' i wx => ∃ k, m' = ln - k ∧ k ≤ ln ∧ i = .int .i64 (k : Nat) ∧ Hid (OB wx w.heap.size 5 (.slice s1 ln c1) ln (xk l c k)) ∧ Hid (Below w.heap.size w wx))
 case atStart => exact ⟨0, by omega, by omega, rfl, by simpa [xk, xorl] using O1, B1⟩
 case round =>
  clear O1 B1
  obtain ⟨k, rfl, hk, rfl, O2, B2⟩ := hrel
  by_cases hkn : k < ln
  ·obtain ⟨g, o, cap, he, hbg, hlt, _, _, hcell, hfz⟩ := O2.out.form (by omega)
   cases he
   have hx := xk_set l c k (by rw [hll.out]; exact hkn)
   have hcx := hcell k hkn
   rw [xk_get l c k (by rw [hll.out]; exact hkn)] at hcx
   have hfx := hfz (o + k)
   have hy := ByL.get hlb.out k
   generalize l.getD k 0 = y at *
   have hxr := u8_xor_nat y c hy hc
   have hyx : y ^^^ c < 256 := Nat.xor_lt_two_pow (n := 8) hy hc
   have O3 := Lib.hid (O2.out.set k hkn (y ^^^ c) hyx)
   rw [hx] at O3
   have B3 := Lib.hid (Below.set3 B2.out (b := g) (o := o + k) hbg (.int .u8 (y ^^^ c : Nat)))
   clear hcell hfz O2 B2 hx
   go_wp2_with fail
   go_roundg (ln - (k + 1))
   case measure => omega
   case rel => exact ⟨k + 1, rfl, by omega, by go_num, O3, B3⟩
  ·obtain rfl : k = ln := by omega
   go_wp2_with fail
   go_ret
   refine ⟨_, rfl, ?_, B2.out⟩
   have := O2.out
   unfold xk at this
   rw [List.take_of_length_le (by rw [hll.out]; exact Nat.le_refl _), List.drop_of_length_le (by rw [hll.out]; exact Nat.le_refl _), List.append_nil] at this
   exact this
end Go.Proofs.YtikmhlbpefednaaGreat

namespace Go.Proofs.YtikmhlbpefednaaGreat
open Go.RowKit
def bkey (key : List Nat) : List Nat := (fun k => k ++ List.replicate (64 - k.length) 0) (if 64 < key.length then sumN key else key)
theorem digest_byt (H : List Nat) : ByL (digest H) := by
 unfold digest
 exact ((((ByL.append (putB_byt _ _) (putB_byt _ _)).append (putB_byt _ _)).append (putB_byt _ _)).append (putB_byt _ _))
theorem sum_byt (m : List Nat) : ByL (sumN m) := digest_byt _
theorem bkey_len (key : List Nat) : (bkey key).length = 64 := by
 unfold bkey
 split
 ·rw [List.length_append, List.length_replicate, sum_len]
 ·rw [List.length_append, List.length_replicate]; omega
theorem SB_of_row {w : World} {g : Nat} {l : List Nat} {t : TypeId} {fr : Nat × Nat} (h : w.heap[g]? = some (.cells (ivA .u8 l) t fr)) (hb : ByL l) (n cap : Nat) (hn : n ≤ l.length) (hc : n ≤ cap) (hm : cap ≤ maxLen) : SB w (.slice (some ⟨g, 0, none⟩) n cap) n (l.take n) := by
 refine SB.mk' (by rw [List.length_take]; omega) (hb.take n) hc hm (hp_lt h) fun j hj => ?_
 rw [Nat.zero_add, iv_cell h j (by omega)]
 simp [List.getD_eq_getElem?_getD, List.getElem?_take, hj]
set_option maxRecDepth 100000 in
set_option maxHeartbeats 4000000 in
theorem blockOf_ok (sa : Option Addr) (ln cp : Nat) (key : List Nat) (hn : ln ≤ 1000000000) (w : World) (hv : SB w (.slice sa ln cp) ln key) :
  Calls Tryz.prog 93 #[.slice sa ln cp] w fun e w' => ∃ v, e = .returned v ∧ OB w' w.heap.size 5 v 64 (bkey key) ∧ Below w.heap.size w w' := by
 have hkl := Lib.hid hv.1
 have hcp : ln ≤ cp ∧ cp ≤ 2 ^ 63 - 1 := by
  obtain ⟨sa', cap, he, h1, h2⟩ := hv.len
  cases he
  unfold maxLen at h2
  exact ⟨h1, h2⟩
 by_cases h64 : 64 < ln
 ·have hbk : Hid (bkey key = sumN key ++ List.replicate 44 0) := by
   unfold Hid bkey
   rw [if_pos (by rw [hkl.out]; exact h64)]
   show sumN key ++ List.replicate (64 - (sumN key).length) 0 = _
   rw [sum_len]
  have hSl := Lib.hid (sum_len key)
  have hSb := Lib.hid (sum_byt key)
  have hf : ([key] : List (List Nat)).flatten = key := by simp
  have s2 := fun w1 v hv h => Lib.hid (shasum_any v 1 [key] h w1 hv)
  rw [hf] at s2
  have hf2 : key.length ≤ 1000000000 := by rw [hkl.out]; exact hn
  have s3 := Lib.hid ((s2 _ _ (SM.one w _ _ _ hv) hf2).out)
  have B1 := Lib.hid ((Below.refl w.heap.size w).alloc (Nat.le_refl _) (.cells #[.slice sa ln cp] 35))
  clear s2 hf hf2 hv
  generalize sumN key = D at *
  go_enter Tryz.func93, Tryz.ntmps93
  go_wp2_with fail
  refine s3.out.mono ?_
  rintro e w2 ⟨rfl, hb⟩
  have B2 := Lib.hid (B1.out.trans (hb.mono B1.out.size))
  clear hb s3 B1
  dsimp only
  have R2 := Lib.hid (hp_new w2 (.cells (ivA .u8 D) 47) _ rfl)
  have B3 := Lib.hid (B2.out.alloc B2.out.size (.cells (ivA .u8 D) 47))
  go_upto_region 4 with (first | (refine wpList_alloc_of rfl 47 rfl _ zero20 ?_) | (refine wpList_store_new rfl 47 _ _ rfl _ (ivA .u8 D) _ rfl rfl (by rw [info20, ivA_size, hSl.out]) (by rw [ivA_size, ivA_size, hSl.out, zeros_len]) (ivA_one _ _) ?_))
  have V3 := Lib.hid (SB_of_row R2.out hSb.out 20 20 (by rw [hSl.out]; exact Nat.le_refl _) (Nat.le_refl _) (by decide))
  rw [List.take_of_length_le (by rw [hSl.out]; exact Nat.le_refl _)] at V3
  generalize w2.alloc (.cells (ivA .u8 D) 47) = w3 at *
  generalize w2.heap.size = b2 at *
  have cl := Lib.hid (clone_ok (some ⟨b2, 0, none⟩) 20 20 D (by omega) w3 V3.out)
  clear V3 R2
  go_wp2_with fail
  refine cl.out.mono ?_
  rintro e w4 ⟨v, rfl, O4, hb⟩
  have B4 := Lib.hid (B3.out.trans (hb.mono B3.out.size))
  replace O4 := Lib.hid (O4.up (base' := w.heap.size) B3.out.size)
  obtain ⟨s4, c4, rfl, hc4, hm4⟩ := O4.out.len
  clear hb cl
  have hz4 := B4.out.size
  dsimp only
  go_wp2_with (at_builtin; go_must (refine wpList_apOBz rfl _ _ rfl w.heap.size _ 20 D rfl O4.out 44 rfl (by omega) hz4 ?_; intro s5 c5 w5 hc5 hm5 O5 T5 B5 G5; replace O5 := Lib.hid O5; replace B5 := Lib.hid (B4.out.trans B5); clear T5 G5))
  go_ret
  exact ⟨_, rfl, by rw [hbk.out]; exact O5.out, B5.out⟩
 ·have hbk : Hid (bkey key = key ++ List.replicate (64 - ln) 0) := by
   unfold Hid bkey
   rw [if_neg (by rw [hkl.out]; exact h64)]
   show key ++ List.replicate (64 - key.length) 0 = _
   rw [hkl.out]
  have cl := Lib.hid (clone_ok sa ln cp key (by omega) w hv)
  have h64' : ¬ (64 : Int) < ln := by omega
  clear hv
  go_enter Tryz.func93, Tryz.ntmps93
  go_wp2_with fail
  refine cl.out.mono ?_
  rintro e w4 ⟨v, rfl, O4, hb⟩
  have B4 := Lib.hid hb
  replace O4 := Lib.hid O4
  obtain ⟨s4, c4, rfl, hc4, hm4⟩ := O4.out.len
  clear hb cl
  have hz4 := B4.out.size
  have hsb : ((64 : Int) - (ln : Int)) = ((64 - ln : Nat) : Int) := by omega
  have hs64 : ln + (64 - ln) = 64 := by omega
  generalize 64 - ln = d at *
  dsimp only
  go_wp2_with (at_builtin; go_must (refine wpList_apOBz rfl _ _ rfl w.heap.size _ ln key rfl O4.out d (by first | rfl | exact congrArg _ hsb) (by omega) hz4 ?_; intro s5 c5 w5 hc5 hm5 O5 T5 B5 G5; rw [hs64] at O5; replace O5 := Lib.hid O5; replace B5 := Lib.hid (B4.out.trans B5); clear T5 G5))
  go_ret
  exact ⟨_, rfl, by rw [hbk.out]; simp only [hs64]; exact O5.out, B5.out⟩
end Go.Proofs.YtikmhlbpefednaaGreat

namespace Go.Proofs.YtikmhlbpefednaaGreat
open Go.RowKit
theorem OB.cut0 {w : World} {base : Nat} {E : TypeId} {g o n cap : Nat} {l : List Nat} (h : OB w base E (.slice (some ⟨g, o, none⟩) n cap) n l) : OB w base E (.slice (some ⟨g, o, none⟩) 0 cap) 0 [] := by
 obtain ⟨_, _, h1, ⟨h2, _⟩ | ⟨g', o1, cap', cur, he, hg, hh, hn, hc, hs, ht⟩⟩ := h
 ·cases h2
 ·cases he
  exact ⟨rfl, by simp [ByL], rfl, .inr ⟨g, o, cap, cur, rfl, hg, hh, Nat.zero_le _, hc, hs, by simp [bvs]⟩⟩
set_option maxRecDepth 100000 in
set_option maxHeartbeats 4000000 in
theorem grow_ok (k : Nat) (hk : k ≤ 1000000000) (w : World) :
  Calls Tryz.prog 87 #[.slice none 0 0, .int .i64 (k : Nat)] w fun e w' => ∃ v, e = .returned v ∧ OB w' w.heap.size 5 v 0 [] ∧ Below w.heap.size w w' := by
 have O0 := Lib.hid (OB.nil w w.heap.size 5)
 go_enter Tryz.func87, Tryz.ntmps87
 by_cases h0 : k = 0
 ·subst h0
  go_wp2_with fail
  go_ret
  exact ⟨_, rfl, O0.out, Below.refl _ _⟩
 ·have h1 : (0 : Int) < k := by omega
  go_wp2_with (at_builtin; go_must (refine wpList_apOBz rfl _ _ rfl w.heap.size _ 0 [] rfl O0.out k rfl (by omega) (Nat.le_refl _) ?_; intro s5 c5 w5 hc5 hm5 O5 T5 B5 G5; rw [Nat.zero_add] at O5; obtain ⟨g5, o5, c6, he, _⟩ := O5.form (by omega); cases he; simp only [Nat.zero_add]; have O6 := Lib.hid O5.cut0; replace B5 := Lib.hid B5; unfold maxLen at hm5; clear T5 G5 O5))
  go_ret
  exact ⟨_, rfl, O6.out, B5.out⟩
set_option maxRecDepth 100000 in
set_option maxHeartbeats 4000000 in
theorem concat_ok (v : Value) (n : Nat) (rows : List (List Nat)) (hsz : rows.flatten.length ≤ 1000000000) (w : World) (hv : SM w v n rows) :
  Calls Tryz.prog 62 #[v] w fun e w' => ∃ v', e = .returned v' ∧ OB w' w.heap.size 5 v' rows.flatten.length rows.flatten ∧ Below w.heap.size w w' := by
 obtain ⟨sv, cv, rfl, hcv, hmv⟩ := hv.len
 unfold maxLen at hmv
 have hrl := Lib.hid hv.1
 replace hv := Lib.hid hv
 go_enter Tryz.func62, Tryz.ntmps62
 go_wp2_with fail
 go_loopg [3, 11] n (fun m' s i wx => ∃ j : Nat, m' = n - j ∧ j ≤ n ∧ i = .int .i64 (j : Nat) ∧ s = .int .i64 ((rows.take j).flatten.length : Nat) ∧ wx = w)
 case atStart => exact ⟨0, by omega, by omega, rfl, rfl, rfl⟩
 case round =>
  obtain ⟨j, rfl, hj, rfl, rfl, rfl⟩ := hrel
  by_cases hjn : j < n
  ·obtain ⟨b, o, cap, he, _, _, _, hcell⟩ := hv.out.form (by omega)
   cases he
   obtain ⟨s, ln, c, hc, hSB⟩ := hcell j hjn
   have hst := Lib.hid (flat_step rows j (by rw [hrl.out]; exact hjn))
   have hle := flat_le rows (j + 1)
   rw [hst.out, List.length_append, hSB.1] at hle
   have hln := Lib.hid hSB.1
   generalize hq : (rows.take j).flatten.length = q at *
   replace hq := Lib.hid hq
   clear hcell hSB
   go_wp2_with fail
   go_roundg (n - (j + 1))
   case measure => omega
   case rel => exact ⟨j + 1, rfl, by omega, by go_num, by rw [hst.out, List.length_append, hln.out, hq.out]; exact congrArg _ (by push_cast; rfl), rfl⟩
  ·obtain rfl : j = n := by omega
   have hall : rows.take j = rows := List.take_of_length_le (by rw [hrl.out]; exact Nat.le_refl _)
   rw [hall]
   generalize hT : rows.flatten.length = T at *
   replace hT := Lib.hid hT
   replace hall := Lib.hid hall
   go_wp2_with fail
   refine (grow_ok T hsz _).mono ?_
   rintro e w1 ⟨v1, rfl, O1, B1⟩
   obtain ⟨s1, c1, rfl, hc1, hm1⟩ := O1.len
   unfold maxLen at hm1
   replace O1 := Lib.hid O1
   replace B1 := Lib.hid B1
   dsimp only
   obtain ⟨w0, rfl⟩ : ∃ x, x = wr := ⟨_, rfl⟩
   go_wp2_with fail
   go_loopg [6, 27] j (fun m' mv i wx => ∃ (t : Nat) (s : Option Addr) (L c : Nat), m' = j - t ∧ t ≤ j ∧ i = .int .i64 (t : Nat) ∧ mv = .slice s L c ∧ L ≤ T ∧ L ≤ c ∧ c ≤ 2 ^ 63 - 1 ∧ Hid (OB wx w0.heap.size 5 mv L (rows.take t).flatten) ∧ Hid (Below w0.heap.size w0 wx))
   case atStart => exact ⟨0, s1, 0, c1, by omega, by omega, rfl, rfl, by omega, hc1, hm1, O1, B1⟩
   case round =>
    clear O1 B1 hc1 hm1
    obtain ⟨t, s2, L, c2, rfl, ht, rfl, rfl, hLT, hLc, hcm, O2, B2⟩ := hrel
    by_cases htj : t < j
    ·obtain ⟨b, o, cap, he, _, _, hbw, hcell⟩ := hv.out.form (by omega)
     cases he
     obtain ⟨s, ln, c, hc, hSB⟩ := hcell t htj
     have hc1 := B2.out.cell (p := ⟨b, o + t, none⟩) hbw
     rw [hc] at hc1
     have hst := Lib.hid (flat_step rows t (by rw [hrl.out]; exact htj))
     have hle := flat_le rows (t + 1)
     rw [hst.out, List.length_append, hSB.1, hT.out, O2.out.1] at hle
     have V2 := Lib.hid (hSB.below B2.out (Nat.le_refl _))
     have hz2 := B2.out.size
     clear hcell hSB hc
     go_wp2_with (at_builtin; go_must (refine wpList_apOB rfl _ _ rfl w0.heap.size _ L _ rfl O2.out _ rfl ln _ V2.out (by omega) hz2 ?_; intro s4 c4 w4 hc4 hm4 O4 T4 B4 G4; rw [← hst.out] at O4; replace O4 := Lib.hid O4; replace B4 := Lib.hid (B2.out.trans B4); clear T4 G4; unfold maxLen at hm4))
     go_roundg (j - (t + 1))
     case measure => omega
     case rel => exact ⟨t + 1, s4, L + ln, c4, rfl, by omega, by go_num, rfl, by omega, hc4, hm4, O4, B4⟩
    ·obtain rfl : t = j := by omega
     rw [hall.out] at O2
     have hLe := O2.out.1
     rw [hT.out] at hLe
     go_wp2_with fail
     go_ret
     exact ⟨_, rfl, by rw [O2.out.1]; exact O2.out, B2.out⟩
end Go.Proofs.YtikmhlbpefednaaGreat

namespace Go.Proofs.YtikmhlbpefednaaGreat
open Go.RowKit
def hmacN (key m : List Nat) : List Nat := sumN (xorl (bkey key) 92 ++ sumN (xorl (bkey key) 54 ++ m))
theorem hmac_len (key m : List Nat) : (hmacN key m).length = 20 := sum_len _
theorem hmac_byt (key m : List Nat) : ByL (hmacN key m) := sum_byt _
theorem slSS : SlTy Tryz.prog 155 35 1 24 := SlTy.mk' Tryz.underlying155 (by kernel_rfl) (by decide)
theorem SM.bw {a b : World} {v : Value} {n : Nat} {rows : List (List Nat)} (h : SM a v n rows) (hb : BW a b) : SM b v n rows := h.below hb (Nat.le_refl _)
theorem SM.cons {w : World} {v : Value} {n : Nat} {x : Value} {ln : Nat} {l : List Nat} {ys : List Value} {rows : List (List Nat)} (h : Sls w 1 v (1 + n) ([x] ++ ys)) (hx : SB w x ln l) (hl : rows.length = n) (hy : ∀ (i : Nat) (y : Value), ys[i]? = some y → ∃ ln, SB w y ln (rows.getD i [])) : SM w v (1 + n) (l :: rows) := by
 refine ⟨by simp [hl]; omega, [x] ++ ys, h, fun i y hi => ?_⟩
 cases i with
 | zero => simp at hi; subst hi; exact ⟨ln, by simpa using hx⟩
 | succ i => simp at hi; simpa using hy i y hi
theorem SM.two (w : World) (x : Value) (lx : Nat) (l : List Nat) (y : Value) (ly : Nat) (k : List Nat) (hx : SB w x lx l) (hy : SB w y ly k) : SM (w.alloc (.cells #[x, y] 35)) (.slice (some ⟨w.heap.size, 0, none⟩) 2 2) 2 [l, k] := by
 refine ⟨rfl, [x, y], ⟨rfl, by decide, .inr ⟨w.heap.size, 0, 2, rfl, Nat.le_refl _, by decide, by simp, fun j hj => ?_⟩⟩, fun i z hz => ?_⟩
 ·rcases (show j = 0 ∨ j = 1 by omega) with rfl | rfl <;> simp [go_sem]
 ·match i, hz with
  | 0, hz => simp at hz; subst hz; exact ⟨lx, hx.alloc _⟩
  | 1, hz => simp at hz; subst hz; exact ⟨ly, hy.alloc _⟩
  | i + 2, hz => simp at hz
theorem wpList_apSM {ops : Array Oper} {rest : List Oper} {o : Oper} {a : Act} {w : World} {Q : Exit → Act → World → Prop} (hgd : o.guard = none) (s x : Operand)
  (ho : o.op = .call { callee := .builtin .append, args := #[s, x], argTypes := #[155, 155] }) (w1 : World) (v1 : Value) (hw : w = w1.alloc (.cells #[v1] 35)) (hs : a.eval s = .slice (some ⟨w1.heap.size, 0, none⟩) 1 1) (ln : Nat) (l : List Nat) (h1 : SB w1 v1 ln l) (vp : Value) (hx : a.eval x = vp) (np : Nat) (rows : List (List Nat)) (hp : SM w1 vp np rows) (hnp : np ≤ 1000000)
  (h : ∀ v' w', SM w' v' (1 + np) (l :: rows) → BW w1 w' → wpList Tryz.prog ops Q rest (a.put o.dst v') w') : wpList Tryz.prog ops Q (o :: rest) a w := by
 subst hw
 obtain ⟨hl, ys, hS, hel⟩ := hp
 have hb0 : BW w1 (w1.alloc (.cells #[v1] 35)) := (BW.refl w1).alloc
 have hO := Ows.new w1 w1.heap.size 35 1 #[v1] [v1] 1 (Nat.le_refl _) rfl (by decide) rfl
 refine wpList_aps slSS hgd _ s x ho w1.heap.size _ 1 [v1] hs hO vp hx np ys (App.sl _ _ _ _ _ Tryz.underlying155 (hS.bw hb0) fun u hu => ?_) (by omega) hb0.size fun v' w' k1 k2 k3 => ?_
 ·obtain ⟨i, hi⟩ := List.mem_iff_getElem?.1 hu
  obtain ⟨ln', h2⟩ := hel i u hi
  obtain ⟨sa, cap, rfl, _⟩ := h2.len
  rfl
 ·have hb : BW w1 w' := hb0.step (Ows.grown (B := w1.heap.size) hb0.size (Nat.le_refl _) hO k2) (Nat.le_refl _)
  refine h v' w' (SM.cons k1.sls (h1.bw hb) hl fun i y hi => ?_) hb
  obtain ⟨ln', h2⟩ := hel i y hi
  exact ⟨ln', h2.bw hb⟩
theorem shasum1 (v : Value) (ln : Nat) (l : List Nat) (w : World) (h : SB w v ln l) (hl : ln ≤ 1000000000) :
  Calls Tryz.prog 94 #[.slice (some ⟨w.heap.size, 0, none⟩) 1 1] (w.alloc (.cells #[v] 35)) fun e w' => e = .returned (.agg (ivA .u8 (sumN l))) ∧ Below (w.alloc (.cells #[v] 35)).heap.size (w.alloc (.cells #[v] 35)) w' := by
 have hf : [l].flatten = l := by simp
 have := shasum_any _ 1 [l] (by rw [hf, h.1]; exact hl) _ (SM.one w v ln l h)
 rw [hf] at this
 exact this
set_option maxRecDepth 100000 in
set_option maxHeartbeats 8000000 in
theorem tag_ok (sk : Option Addr) (nk ck : Nat) (sp : Option Addr) (np cp : Nat) (n : Int) (key : List Nat) (rows : List (List Nat)) (hn1 : -9223372036854775808 ≤ n) (hn2 : n ≤ 9223372036854775807) (hnk : nk ≤ 1000000000) (hnp : np ≤ 1000000) (hsz : rows.flatten.length ≤ 100000000) (w : World) (hk : SB w (.slice sk nk ck) nk key) (hp : SM w (.slice sp np cp) np rows) :
  Calls Tryz.prog 71 #[.slice sk nk ck, .int .i64 n, .slice sp np cp] w fun e w' => ∃ v, e = .returned v ∧ OB w' w.heap.size 5 v (min n.toNat 20) ((hmacN key rows.flatten).take n.toNat) ∧ Below w.heap.size w w' := by
 have hbl := Lib.hid (bkey_len key)
 have hml := Lib.hid (hmac_len key rows.flatten)
 have hmb := Lib.hid (hmac_byt key rows.flatten)
 have hH : Hid (hmacN key rows.flatten = sumN (xorl (bkey key) 92 ++ sumN (xorl (bkey key) 54 ++ rows.flatten))) := rfl
 have hxl : ∀ c, Hid ((xorl (bkey key) c).length = 64) := fun c => by simp [Hid, xorl, hbl.out]
 have hi1 := Lib.hid (sum_len (xorl (bkey key) 54 ++ rows.flatten))
 have hi2 := Lib.hid (sum_byt (xorl (bkey key) 54 ++ rows.flatten))
 generalize hmacN key rows.flatten = H at *
 have V0 := Lib.hid hk
 have P0 := Lib.hid hp
 clear hk hp
 have B := Lib.hid (BW.refl w)
 go_enter Tryz.func71, Tryz.ntmps71
 go_wp2_with fail
 refine Calls.mono (blockOf_ok sk nk ck key hnk w V0.out) ?_
 rintro e w1 ⟨v1, rfl, O1, hb⟩
 replace hb : BW w w1 := BW.call (by repeat (first | exact BW.refl _ | apply BW.alloc | apply BW.drewN | apply BW.drew)) hb
 replace B := Lib.hid (B.out.trans hb)
 replace V0 := Lib.hid (V0.out.bw hb)
 replace P0 := Lib.hid (P0.out.bw hb)
 clear hb
 dsimp only
 obtain ⟨s1, c1, rfl, _, _⟩ := O1.len
 replace O1 := Lib.hid O1
 go_wp2_with fail
 refine Calls.mono (with_ok s1 64 c1 (bkey key) 54 (by decide) (by decide) w1 O1.out.sb) ?_
 rintro e w2 ⟨v2, rfl, O2, hb⟩
 replace hb : BW w1 w2 := BW.call (by repeat (first | exact BW.refl _ | apply BW.alloc | apply BW.drewN | apply BW.drew)) hb
 replace B := Lib.hid (B.out.trans hb)
 replace V0 := Lib.hid (V0.out.bw hb)
 replace P0 := Lib.hid (P0.out.bw hb)
 replace O1 := Lib.hid (O1.out.bw hb)
 clear hb
 dsimp only
 obtain ⟨s2, c2, rfl, _, _⟩ := O2.len
 replace O2 := Lib.hid O2
 go_wp2_with (at_builtin; go_must (refine wpList_apSM rfl _ _ rfl w2 (.slice s2 64 c2) rfl rfl 64 _ O2.out.sb _ rfl np rows P0.out hnp ?_; intro v3 w3 M3 b3))
 obtain ⟨s3, c3, rfl, _, _⟩ := M3.len
 replace M3 := Lib.hid M3
 have hb : BW w2 w3 := b3
 replace B := Lib.hid (B.out.trans hb)
 replace V0 := Lib.hid (V0.out.bw hb)
 replace P0 := Lib.hid (P0.out.bw hb)
 replace O1 := Lib.hid (O1.out.bw hb)
 replace O2 := Lib.hid (O2.out.bw hb)
 clear hb
 clear P0 O2
 have hf : (xorl (bkey key) 54 :: rows).flatten = xorl (bkey key) 54 ++ rows.flatten := by simp
 have hc := fun h => Lib.hid (concat_ok (.slice s3 (1 + np) c3) (1 + np) _ h w3 M3.out)
 rw [hf] at hc
 have hfl : (xorl (bkey key) 54 ++ rows.flatten).length ≤ 1000000000 := by rw [List.length_append, (hxl 54).out]; omega
 generalize xorl (bkey key) 54 ++ rows.flatten = msg at *
 generalize msg.length = nq at *
 go_wp2_with fail
 refine Calls.mono ((hc hfl).out) ?_
 rintro e w4 ⟨v4, rfl, O4, hb⟩
 replace hb : BW w3 w4 := BW.call (by repeat (first | exact BW.refl _ | apply BW.alloc | apply BW.drewN | apply BW.drew)) hb
 replace B := Lib.hid (B.out.trans hb)
 replace V0 := Lib.hid (V0.out.bw hb)
 replace O1 := Lib.hid (O1.out.bw hb)
 clear hb
 dsimp only
 clear hc M3
 obtain ⟨s4, c4, rfl, _, _⟩ := O4.len
 have hS1 := Lib.hid (shasum1 (.slice s4 _ c4) _ _ w4 O4.sb hfl)
 generalize sumN msg = D1 at *
 clear hf hfl O4
 go_wp2_with fail
 refine Calls.mono (hS1.out) ?_
 rintro e w5 ⟨rfl, hb⟩
 replace hb : BW w4 w5 := BW.call (by repeat (first | exact BW.refl _ | apply BW.alloc | apply BW.drewN | apply BW.drew)) hb
 replace B := Lib.hid (B.out.trans hb)
 replace O1 := Lib.hid (O1.out.bw hb)
 clear hb
 dsimp only
 go_upto_region 3 with (first | (refine wpList_alloc_of rfl 47 rfl _ zero20 ?_) | (refine wpList_store_new rfl 47 _ _ rfl _ (ivA .u8 D1) _ rfl rfl (by rw [info20, ivA_size, hi1.out]) (by rw [ivA_size, ivA_size, hi1.out, zeros_len]) (ivA_one _ _) ?_))
 have R6 := Lib.hid (HpB.new w5 (.cells (ivA .u8 D1) 47))
 generalize hw6 : w5.alloc (.cells (ivA .u8 D1) 47) = w6 at *
 have hb : BW w5 w6 := (by subst hw6; exact (BW.refl w5).alloc)
 replace B := Lib.hid (B.out.trans hb)
 replace O1 := Lib.hid (O1.out.bw hb)
 clear hb
 generalize w5.heap.size = b6 at *
 have hx1 := (hxl 92).out
 have hz6 := B.out.size
 try simp only [Act.put, List.setIfInBounds_toArray, List.set_cons_succ, List.set_cons_zero]
 refine wp_region_gg [] [] [6] (by kernel_rfl) ?_
 refine float 5 (fun g => .pointer (some ⟨g, 0, none⟩)) (.cells (ivA .u8 (zeros 20)) 47) rfl (by kernel_rfl) (by first | assumption | (intro k hk; cases hk) | omega) rfl (fun x => run_flo_alloc _ _ zero20 rfl _ x) ?_
 refine hoist [] [] (a1 := ?_) 0 rfl (by kernel_rfl) (.inl ⟨rfl, rfl⟩) rfl rfl rfl (fun x K hK => ?_) ?_
 rotate_left
 ·go_big_quiet_op
  exact hK
 refine hoist [] [] (a1 := ?_) 2 rfl (by kernel_rfl) (.inl ⟨rfl, rfl⟩) rfl rfl rfl (fun x K hK => ?_) ?_
 rotate_left
 ·go_big_quiet_op
  exact hK
 refine effect 1 rfl (by kernel_rfl) (by kernel_rfl) rfl (fun x1 K hK => ?_)
 go_simp
 refine Calls.mono (with_ok s1 64 c1 (bkey key) 92 (by decide) (by decide) _ (O1.out.bw x1.bw).sb) ?_
 rintro e w7 ⟨v7, rfl, O7, hb⟩
 obtain ⟨s7, c7, rfl, _, _⟩ := O7.len
 refine hK _ _ (Still.of_below hb) ?_
 clear hK K
 replace O7 := Lib.hid O7
 have hb : BW w6 w7 := (x1.bw.call hb)
 replace B := Lib.hid (B.out.trans hb)
 replace O1 := Lib.hid (O1.out.bw hb)
 replace R6 := Lib.hid (R6.out.bw hb)
 clear hb
 try simp only [Act.put, List.setIfInBounds_toArray, List.set_cons_succ, List.set_cons_zero]
 refine effect 3 rfl (by kernel_rfl) (by kernel_rfl) rfl (fun x3 K hK => ?_)
 go_simp
 refine hK _ _ (Still.of_below ((Below.refl _ _).alloc (Nat.le_refl _) _)) ?_
 clear hK K
 have M3 := Lib.hid (SM.two x3.now _ _ _ _ _ _ (O7.out.bw x3.bw).sb (SB_of_row (R6.out.bw x3.bw) hi2.out 20 20 (by rw [hi1.out]; exact Nat.le_refl _) (Nat.le_refl _) (by decide)))
 have hb : BW w7 x3.now := x3.bw
 replace B := Lib.hid (B.out.trans hb)
 clear hb
 clear O7 O1 R6
 try simp only [Act.put, List.setIfInBounds_toArray, List.set_cons_succ, List.set_cons_zero]
 refine effect 4 rfl (by kernel_rfl) (by kernel_rfl) rfl (fun x4 K hK => ?_)
 go_simp
 have hf4 : ([xorl (bkey key) 92, D1.take 20] : List (List Nat)).flatten = xorl (bkey key) 92 ++ D1 := by simp [List.take_of_length_le (show D1.length ≤ 20 by rw [hi1.out]; exact Nat.le_refl _)]
 have hS := Lib.hid (shasum_any _ 2 _ (by rw [hf4, List.length_append, hx1, hi1.out]; decide) _ (M3.out.bw x4.bw))
 rw [hf4, ← hH.out] at hS
 refine Calls.mono hS.out ?_
 rintro e w8 ⟨rfl, hb⟩
 refine hK _ _ (Still.of_below hb) ?_
 clear hK K hS M3 hf4
 replace hb : BW x3.now w8 := BW.trans ((BW.refl _).alloc.trans x4.bw) hb
 have hb : BW x3.now w8 := hb
 replace B := Lib.hid (B.out.trans hb)
 clear hb
 try simp only [Act.put, List.setIfInBounds_toArray, List.set_cons_succ, List.set_cons_zero]
 refine tailF 6 rfl (by kernel_rfl) rfl (fun xr => ?_)
 intro g5 hg5 hG5
 refine fin_nil ?_
 dsimp only at hg5 hG5
 try simp only [Act.put, List.setIfInBounds_toArray, List.set_cons_succ, List.set_cons_zero]
 simp only [List.drop_succ_cons, List.drop_zero]
 have B9 := Lib.hid ((B.out.trans xr.bw).row (Nat.le_trans hz6 hg5) (ivA .u8 H))
 have R9 := Lib.hid (hp_row hG5 (ivA .u8 H))
 go_wp2_with (refine wpList_store_row rfl 47 _ _ rfl g5 (ivA .u8 H) rfl rfl _ _ hG5 (by rw [info20, ivA_size, hml.out]) (by rw [ivA_size, ivA_size, hml.out, zeros_len]) (ivA_one _ _) ?_; clear hG5; generalize xr.now.setRow g5 (ivA .u8 H) = w9 at *)
 all_goals
  refine Calls.mono (clone_ok (some ⟨g5, 0, none⟩) _ 20 _ ?_ w9 (SB_of_row R9.out hmb.out _ 20 ?_ ?_ (by decide))) ?_
  ·omega
  ·rw [hml.out]; omega
  ·omega
  rintro e w10 ⟨v10, rfl, O10, hb⟩
  have B10 := Lib.hid (B9.out.trans hb)
  replace O10 := Lib.hid (O10.up B9.out.size)
  clear hb
  dsimp only
  go_wp2_with fail
  go_ret
  refine ⟨_, rfl, ?_, B10.out⟩
  have e1 : H.take (min n.toNat 20) = H.take n.toNat := by
   rcases Nat.le_total n.toNat 20 with h | h
   ·rw [Nat.min_eq_left h]
   ·rw [Nat.min_eq_right h, List.take_of_length_le (by rw [hml.out]; exact Nat.le_refl _), List.take_of_length_le (by rw [hml.out]; exact h)]
  rw [← e1]
  first
  | (rw [show min n.toNat 20 = 20 by omega]; exact O10.out)
  | (rw [show min n.toNat 20 = n.toNat by omega]; exact O10.out)
  | (rw [show min n.toNat 20 = 0 by omega]; exact O10.out)
def goodB (key m tag : List Nat) : Bool := decide (1 ≤ tag.length) && decide (tag.length ≤ 20) && decide (tag = (hmacN key m).take tag.length)
set_option maxRecDepth 100000 in
set_option maxHeartbeats 8000000 in
theorem check_ok (sk : Option Addr) (nk ck : Nat) (st : Option Addr) (nt ct : Nat) (sp : Option Addr) (np cp : Nat) (key tag : List Nat) (rows : List (List Nat)) (hnk : nk ≤ 1000000000) (hnp : np ≤ 1000000) (hsz : rows.flatten.length ≤ 100000000) (w : World) (hk : SB w (.slice sk nk ck) nk key) (ht : SB w (.slice st nt ct) nt tag) (hp : SM w (.slice sp np cp) np rows) :
  Calls Tryz.prog 60 #[.slice sk nk ck, .slice st nt ct, .slice sp np cp] w fun e w' => e = .returned (.bool (goodB key rows.flatten tag)) ∧ Below w.heap.size w w' := by
 have hl := Lib.hid ht.1
 have hlc := ht.unpack.2.1
 have hlc1 := ht.unpack.1
 have V0 := Lib.hid ht
 by_cases h1 : 1 ≤ nt
 ·by_cases h2 : nt ≤ 20
  ·have h1' : ¬ (nt : Int) < 1 := by omega
   have h2' : ¬ (20 : Int) < nt := by omega
   have hg : goodB key rows.flatten tag = decide (tag = (hmacN key rows.flatten).take nt) := by
    unfold goodB
    rw [hl.out]; simp [h1, h2]
   have hT := Lib.hid (tag_ok sk nk ck sp np cp nt key rows (by omega) (by omega) hnk hnp hsz w hk hp)
   rw [hg]
   clear hg hk hp ht
   have e1 : min ((nt : Int).toNat) 20 = nt := by omega
   rw [Int.toNat_natCast] at hT e1
   rw [e1] at hT
   generalize (hmacN key rows.flatten).take nt = H at *
   generalize hq : decide (tag = H) = q at *
   replace hq := Lib.hid hq
   replace e1 := Lib.hid e1
   have B := Lib.hid (BW.refl w)
   go_enter Tryz.func60, Tryz.ntmps60
   go_wp2_with fail
   refine Calls.mono (hT.out) ?_
   rintro e w1 ⟨v1, rfl, O1, hb⟩
   replace hb : BW w w1 := BW.call (by repeat (first | exact BW.refl _ | apply BW.alloc | apply BW.drewN | apply BW.drew)) hb
   replace B := Lib.hid (B.out.trans hb)
   replace V0 := Lib.hid (V0.out.bw hb)
   clear hb
   dsimp only
   have hS := same_ok _ _ _ _ _ _ w1 V0.out O1.sb
   rw [hq.out] at hS
   replace hS := Lib.hid hS
   clear O1
   go_wp2_with fail
   refine Calls.mono (hS.out) ?_
   rintro e w2 ⟨rfl, hb⟩
   replace hb : BW w1 w2 := BW.call (by repeat (first | exact BW.refl _ | apply BW.alloc | apply BW.drewN | apply BW.drew)) hb
   replace B := Lib.hid (B.out.trans hb)
   replace V0 := Lib.hid (V0.out.bw hb)
   clear hb
   dsimp only
   go_wp2_with fail
   go_ret
   exact ⟨rfl, B.out⟩
  ·have h1' : ¬ (nt : Int) < 1 := by omega
   have h2' : (20 : Int) < nt := by omega
   have hg : goodB key rows.flatten tag = false := by
    unfold goodB
    rw [hl.out]; simp [h2]
   rw [hg]
   clear hg hk hp ht
   go_enter Tryz.func60, Tryz.ntmps60
   go_wp2_with fail
   go_ret
   exact ⟨rfl, BW.refl _⟩
 ·have h1' : (nt : Int) < 1 := by omega
  have hg : goodB key rows.flatten tag = false := by
   unfold goodB
   rw [hl.out]; simp [h1]
  rw [hg]
  clear hg hk hp ht
  go_enter Tryz.func60, Tryz.ntmps60
  go_wp2_with fail
  go_ret
  exact ⟨rfl, BW.refl _⟩
end Go.Proofs.YtikmhlbpefednaaGreat
