/- mac.Tag, mac.Check. No condition but the sizes'. -/
import Derived.Test.YtjjemkfkpnemoaaMcB
import Derived.Test.YtjjemkfkpnemoaaMcC
import Derived.Test.YtjjemkfkpnemoaaSam
namespace Go.Proofs.Ytjjemkfkpnemoaa
open Go.RowKit

def hmacN (key m : List Nat) : List Nat := sumN (xorl (bkey key) 92 ++ sumN (xorl (bkey key) 54 ++ m))
theorem hmac_len (key m : List Nat) : (hmacN key m).length = 20 := sum_len _
theorem hmac_byt (key m : List Nat) : ByL (hmacN key m) := sum_byt _
theorem slSS : SlTy Try.prog 38 37 1 24 := SlTy.mk' Try.underlying38 (by kernel_rfl) (by decide)
theorem SM.bw {a b : World} {v : Value} {n : Nat} {rows : List (List Nat)} (h : SM a v n rows) (hb : BW a b) : SM b v n rows := h.below hb (Nat.le_refl _)
/-- Rows behind one more. -/
theorem SM.cons {w : World} {v : Value} {n : Nat} {x : Value} {ln : Nat} {l : List Nat} {ys : List Value} {rows : List (List Nat)} (h : Sls w 1 v (1 + n) ([x] ++ ys)) (hx : SB w x ln l) (hl : rows.length = n) (hy : ∀ (i : Nat) (y : Value), ys[i]? = some y → ∃ ln, SB w y ln (rows.getD i [])) : SM w v (1 + n) (l :: rows) := by
  refine ⟨by simp [hl]; omega, [x] ++ ys, h, fun i y hi => ?_⟩
  cases i with
  | zero => simp at hi; subst hi; exact ⟨ln, by simpa using hx⟩
  | succ i => simp at hi; simpa using hy i y hi
theorem SM.two (w : World) (x : Value) (lx : Nat) (l : List Nat) (y : Value) (ly : Nat) (k : List Nat) (hx : SB w x lx l) (hy : SB w y ly k) : SM (w.alloc (.cells #[x, y] 37)) (.slice (some ⟨w.heap.size, 0, none⟩) 2 2) 2 [l, k] := by
  refine ⟨rfl, [x, y], ⟨rfl, by decide, .inr ⟨w.heap.size, 0, 2, rfl, Nat.le_refl _, by decide, by simp, fun j hj => ?_⟩⟩, fun i z hz => ?_⟩
  · rcases (show j = 0 ∨ j = 1 by omega) with rfl | rfl <;> simp [go_sem]
  · match i, hz with
    | 0, hz => simp at hz; subst hz; exact ⟨lx, hx.alloc _⟩
    | 1, hz => simp at hz; subst hz; exact ⟨ly, hy.alloc _⟩
    | i + 2, hz => simp at hz
/-- append([][]byte{v1}, parts...) -/
theorem wpList_apSM {ops : Array Oper} {rest : List Oper} {o : Oper} {a : Act} {w : World} {Q : Exit → Act → World → Prop} (hgd : o.guard = none) (s x : Operand)
    (ho : o.op = .call { callee := .builtin .append, args := #[s, x], argTypes := #[38, 38] }) (w1 : World) (v1 : Value) (hw : w = w1.alloc (.cells #[v1] 37)) (hs : a.eval s = .slice (some ⟨w1.heap.size, 0, none⟩) 1 1) (ln : Nat) (l : List Nat) (h1 : SB w1 v1 ln l) (vp : Value) (hx : a.eval x = vp) (np : Nat) (rows : List (List Nat)) (hp : SM w1 vp np rows) (hnp : np ≤ 1000000)
    (h : ∀ v' w', SM w' v' (1 + np) (l :: rows) → BW w1 w' → wpList Try.prog ops Q rest (a.put o.dst v') w') : wpList Try.prog ops Q (o :: rest) a w := by
  subst hw
  obtain ⟨hl, ys, hS, hel⟩ := hp
  have hb0 : BW w1 (w1.alloc (.cells #[v1] 37)) := (BW.refl w1).alloc
  have hO := Ows.new w1 w1.heap.size 37 1 #[v1] [v1] 1 (Nat.le_refl _) rfl (by decide) rfl
  refine wpList_aps slSS hgd _ s x ho w1.heap.size _ 1 [v1] hs hO vp hx np ys (App.sl _ _ _ _ _ Try.underlying38 (hS.bw hb0) fun u hu => ?_) (by omega) hb0.size fun v' w' k1 k2 k3 => ?_
  · obtain ⟨i, hi⟩ := List.mem_iff_getElem?.1 hu
    obtain ⟨ln', h2⟩ := hel i u hi
    obtain ⟨sa, cap, rfl, _⟩ := h2.len
    rfl
  · have hb : BW w1 w' := hb0.step (Ows.grown (B := w1.heap.size) hb0.size (Nat.le_refl _) hO k2) (Nat.le_refl _)
    refine h v' w' (SM.cons k1.sls (h1.bw hb) hl fun i y hi => ?_) hb
    obtain ⟨ln', h2⟩ := hel i y hi
    exact ⟨ln', h2.bw hb⟩

theorem shasum1 (v : Value) (ln : Nat) (l : List Nat) (w : World) (h : SB w v ln l) (hl : ln ≤ 1000000000) :
    Calls Try.prog 27 #[.slice (some ⟨w.heap.size, 0, none⟩) 1 1] (w.alloc (.cells #[v] 37)) fun e w' => e = .returned (.agg (ivA .u8 (sumN l))) ∧ Below (w.alloc (.cells #[v] 37)).heap.size (w.alloc (.cells #[v] 37)) w' := by
  have hf : [l].flatten = l := by simp
  have := shasum_any _ 1 [l] (by rw [hf, h.1]; exact hl) _ (SM.one w v ln l h)
  rw [hf] at this
  exact this

set_option maxRecDepth 100000 in
set_option maxHeartbeats 8000000 in
theorem tag_ok (sk : Option Addr) (nk ck : Nat) (sp : Option Addr) (np cp : Nat) (n : Int) (key : List Nat) (rows : List (List Nat)) (hn1 : -9223372036854775808 ≤ n) (hn2 : n ≤ 9223372036854775807) (hnk : nk ≤ 1000000000) (hnp : np ≤ 1000000) (hsz : rows.flatten.length ≤ 100000000) (w : World) (hk : SB w (.slice sk nk ck) nk key) (hp : SM w (.slice sp np cp) np rows) :
    Calls Try.prog 49 #[.slice sk nk ck, .int .i64 n, .slice sp np cp] w fun e w' => ∃ v, e = .returned v ∧ OB w' w.heap.size 5 v (min n.toNat 20) ((hmacN key rows.flatten).take n.toNat) ∧ Below w.heap.size w w' := by
  have hbl := Lib.hid (bkey_len key)
  have hml := Lib.hid (hmac_len key rows.flatten)
  have hmb := Lib.hid (hmac_byt key rows.flatten)
  have hH : Hid (hmacN key rows.flatten = sumN (xorl (bkey key) 92 ++ sumN (xorl (bkey key) 54 ++ rows.flatten))) := rfl
  have hxl : ∀ c, Hid ((xorl (bkey key) c).length = 64) := fun c => by simp [Hid, xorl, hbl.out]
  have hi1 := Lib.hid (sum_len (xorl (bkey key) 54 ++ rows.flatten))
  have hi2 := Lib.hid (sum_byt (xorl (bkey key) 54 ++ rows.flatten))
  generalize hmacN key rows.flatten = H at *
  have V0 := Lib.hid hk
  have P0 := Lib.hid hp
  clear hk hp
  have B := Lib.hid (BW.refl w)
  go_enter Try.func49, Try.ntmps49
  go_wp2_with fail
  refine Calls.mono (blockOf_ok sk nk ck key hnk w V0.out) ?_
  rintro e w1 ⟨v1, rfl, O1, hb⟩
  replace hb : BW w w1 := BW.call (by repeat (first | exact BW.refl _ | apply BW.alloc | apply BW.drewN | apply BW.drew)) hb
  replace B := Lib.hid (B.out.trans hb)
  replace V0 := Lib.hid (V0.out.bw hb)
  replace P0 := Lib.hid (P0.out.bw hb)
  clear hb
  dsimp only
  obtain ⟨s1, c1, rfl, _, _⟩ := O1.len
  replace O1 := Lib.hid O1
  go_wp2_with fail
  refine Calls.mono (with_ok s1 64 c1 (bkey key) 54 (by decide) (by decide) w1 O1.out.sb) ?_
  rintro e w2 ⟨v2, rfl, O2, hb⟩
  replace hb : BW w1 w2 := BW.call (by repeat (first | exact BW.refl _ | apply BW.alloc | apply BW.drewN | apply BW.drew)) hb
  replace B := Lib.hid (B.out.trans hb)
  replace V0 := Lib.hid (V0.out.bw hb)
  replace P0 := Lib.hid (P0.out.bw hb)
  replace O1 := Lib.hid (O1.out.bw hb)
  clear hb
  dsimp only
  obtain ⟨s2, c2, rfl, _, _⟩ := O2.len
  replace O2 := Lib.hid O2
  go_wp2_with (at_builtin; go_must (refine wpList_apSM rfl _ _ rfl w2 (.slice s2 64 c2) rfl rfl 64 _ O2.out.sb _ rfl np rows P0.out hnp ?_; intro v3 w3 M3 b3))
  obtain ⟨s3, c3, rfl, _, _⟩ := M3.len
  replace M3 := Lib.hid M3
  have hb : BW w2 w3 := b3
  replace B := Lib.hid (B.out.trans hb)
  replace V0 := Lib.hid (V0.out.bw hb)
  replace P0 := Lib.hid (P0.out.bw hb)
  replace O1 := Lib.hid (O1.out.bw hb)
  replace O2 := Lib.hid (O2.out.bw hb)
  clear hb
  clear P0 O2
  have hf : (xorl (bkey key) 54 :: rows).flatten = xorl (bkey key) 54 ++ rows.flatten := by simp
  have hc := fun h => Lib.hid (concat_ok (.slice s3 (1 + np) c3) (1 + np) _ h w3 M3.out)
  rw [hf] at hc
  have hfl : (xorl (bkey key) 54 ++ rows.flatten).length ≤ 1000000000 := by rw [List.length_append, (hxl 54).out]; omega
  generalize xorl (bkey key) 54 ++ rows.flatten = msg at *
  generalize msg.length = nq at *
  go_wp2_with fail
  refine Calls.mono ((hc hfl).out) ?_
  rintro e w4 ⟨v4, rfl, O4, hb⟩
  replace hb : BW w3 w4 := BW.call (by repeat (first | exact BW.refl _ | apply BW.alloc | apply BW.drewN | apply BW.drew)) hb
  replace B := Lib.hid (B.out.trans hb)
  replace V0 := Lib.hid (V0.out.bw hb)
  replace O1 := Lib.hid (O1.out.bw hb)
  clear hb
  dsimp only
  clear hc M3
  obtain ⟨s4, c4, rfl, _, _⟩ := O4.len
  have hS1 := Lib.hid (shasum1 (.slice s4 _ c4) _ _ w4 O4.sb hfl)
  generalize sumN msg = D1 at *
  clear hf hfl O4
  go_wp2_with fail
  refine Calls.mono (hS1.out) ?_
  rintro e w5 ⟨rfl, hb⟩
  replace hb : BW w4 w5 := BW.call (by repeat (first | exact BW.refl _ | apply BW.alloc | apply BW.drewN | apply BW.drew)) hb
  replace B := Lib.hid (B.out.trans hb)
  replace O1 := Lib.hid (O1.out.bw hb)
  clear hb
  dsimp only
  go_upto_region 3 with (first | (refine wpList_alloc_of rfl 42 rfl _ zero20 ?_) | (refine wpList_store_new rfl 42 _ _ rfl _ (ivA .u8 D1) _ rfl rfl (by rw [info20, ivA_size, hi1.out]) (by rw [ivA_size, ivA_size, hi1.out, zeros_len]) (ivA_one _ _) ?_))
  have R6 := Lib.hid (HpB.new w5 (.cells (ivA .u8 D1) 42))
  generalize hw6 : w5.alloc (.cells (ivA .u8 D1) 42) = w6 at *
  have hb : BW w5 w6 := (by subst hw6; exact (BW.refl w5).alloc)
  replace B := Lib.hid (B.out.trans hb)
  replace O1 := Lib.hid (O1.out.bw hb)
  clear hb
  generalize w5.heap.size = b6 at *
  have hx1 := (hxl 92).out
  have hz6 := B.out.size
  try simp only [Act.put, List.setIfInBounds_toArray, List.set_cons_succ, List.set_cons_zero]
  refine wp_region_gg [] [] [6] (by kernel_rfl) ?_
  refine float 5 (fun g => .pointer (some ⟨g, 0, none⟩)) (.cells (ivA .u8 (zeros 20)) 42) rfl (by kernel_rfl) (by first | (intro k hk; cases hk) | assumption | omega) rfl (fun x => run_flo_alloc _ _ zero20 rfl _ x) ?_
  refine hoist [] [] (a1 := ?_) 0 rfl (by kernel_rfl) (.inl ⟨rfl, rfl⟩) rfl rfl rfl (fun x K hK => ?_) ?_
  rotate_left
  · go_big_quiet_op
    exact hK
  refine hoist [] [] (a1 := ?_) 2 rfl (by kernel_rfl) (.inl ⟨rfl, rfl⟩) rfl rfl rfl (fun x K hK => ?_) ?_
  rotate_left
  · go_big_quiet_op
    exact hK
  refine effect 1 rfl (by kernel_rfl) (by kernel_rfl) rfl (fun x1 K hK => ?_)
  go_simp
  refine Calls.mono (with_ok s1 64 c1 (bkey key) 92 (by decide) (by decide) _ (O1.out.bw x1.bw).sb) ?_
  rintro e w7 ⟨v7, rfl, O7, hb⟩
  obtain ⟨s7, c7, rfl, _, _⟩ := O7.len
  refine hK _ _ (Still.of_below hb) ?_
  clear hK K
  replace O7 := Lib.hid O7
  have hb : BW w6 w7 := (x1.bw.call hb)
  replace B := Lib.hid (B.out.trans hb)
  replace O1 := Lib.hid (O1.out.bw hb)
  replace R6 := Lib.hid (R6.out.bw hb)
  clear hb
  try simp only [Act.put, List.setIfInBounds_toArray, List.set_cons_succ, List.set_cons_zero]
  refine effect 3 rfl (by kernel_rfl) (by kernel_rfl) rfl (fun x3 K hK => ?_)
  go_simp
  refine hK _ _ (Still.of_below ((Below.refl _ _).alloc (Nat.le_refl _) _)) ?_
  clear hK K
  have M3 := Lib.hid (SM.two x3.now _ _ _ _ _ _ (O7.out.bw x3.bw).sb (SB_of_row (R6.out.bw x3.bw) hi2.out 20 20 (by rw [hi1.out]; exact Nat.le_refl _) (Nat.le_refl _) (by decide)))
  have hb : BW w7 x3.now := x3.bw
  replace B := Lib.hid (B.out.trans hb)
  clear hb
  clear O7 O1 R6
  try simp only [Act.put, List.setIfInBounds_toArray, List.set_cons_succ, List.set_cons_zero]
  refine effect 4 rfl (by kernel_rfl) (by kernel_rfl) rfl (fun x4 K hK => ?_)
  go_simp
  have hf4 : ([xorl (bkey key) 92, D1.take 20] : List (List Nat)).flatten = xorl (bkey key) 92 ++ D1 := by simp [List.take_of_length_le (show D1.length ≤ 20 by rw [hi1.out]; exact Nat.le_refl _)]
  have hS := Lib.hid (shasum_any _ 2 _ (by rw [hf4, List.length_append, hx1, hi1.out]; decide) _ (M3.out.bw x4.bw))
  rw [hf4, ← hH.out] at hS
  refine Calls.mono hS.out ?_
  rintro e w8 ⟨rfl, hb⟩
  refine hK _ _ (Still.of_below hb) ?_
  clear hK K hS M3 hf4
  replace hb : BW x3.now w8 := BW.trans ((BW.refl _).alloc.trans x4.bw) hb
  have hb : BW x3.now w8 := hb
  replace B := Lib.hid (B.out.trans hb)
  clear hb
  try simp only [Act.put, List.setIfInBounds_toArray, List.set_cons_succ, List.set_cons_zero]
  refine tailF 6 rfl (by kernel_rfl) rfl (fun xr => ?_)
  intro g5 hg5 hG5
  refine fin_nil ?_
  dsimp only at hg5 hG5
  try simp only [Act.put, List.setIfInBounds_toArray, List.set_cons_succ, List.set_cons_zero]
  simp only [List.drop_succ_cons, List.drop_zero]
  have B9 := Lib.hid ((B.out.trans xr.bw).row (Nat.le_trans hz6 hg5) (ivA .u8 H))
  have R9 := Lib.hid (hp_row hG5 (ivA .u8 H))
  go_wp2_with (refine wpList_store_row rfl 42 _ _ rfl g5 (ivA .u8 H) rfl rfl _ _ hG5 (by rw [info20, ivA_size, hml.out]) (by rw [ivA_size, ivA_size, hml.out, zeros_len]) (ivA_one _ _) ?_; clear hG5; generalize xr.now.setRow g5 (ivA .u8 H) = w9 at *)
  all_goals
    refine Calls.mono (clone_ok (some ⟨g5, 0, none⟩) _ 20 _ ?_ w9 (SB_of_row R9.out hmb.out _ 20 ?_ ?_ (by decide))) ?_
    · omega
    · rw [hml.out]; omega
    · omega
    rintro e w10 ⟨v10, rfl, O10, hb⟩
    have B10 := Lib.hid (B9.out.trans hb)
    replace O10 := Lib.hid (O10.up B9.out.size)
    clear hb
    dsimp only
    go_wp2_with fail
    go_ret
    refine ⟨_, rfl, ?_, B10.out⟩
    have e1 : H.take (min n.toNat 20) = H.take n.toNat := by
      rcases Nat.le_total n.toNat 20 with h | h
      · rw [Nat.min_eq_left h]
      · rw [Nat.min_eq_right h, List.take_of_length_le (by rw [hml.out]; exact Nat.le_refl _), List.take_of_length_le (by rw [hml.out]; exact h)]
    rw [← e1]
    first
    | (rw [show min n.toNat 20 = 20 by omega]; exact O10.out)
    | (rw [show min n.toNat 20 = n.toNat by omega]; exact O10.out)
    | (rw [show min n.toNat 20 = 0 by omega]; exact O10.out)

/-- Is it the first bytes? -/
def goodB (key m tag : List Nat) : Bool := decide (1 ≤ tag.length) && decide (tag.length ≤ 20) && decide (tag = (hmacN key m).take tag.length)

set_option maxRecDepth 100000 in
set_option maxHeartbeats 8000000 in
theorem check_ok (sk : Option Addr) (nk ck : Nat) (st : Option Addr) (nt ct : Nat) (sp : Option Addr) (np cp : Nat) (key tag : List Nat) (rows : List (List Nat)) (hnk : nk ≤ 1000000000) (hnp : np ≤ 1000000) (hsz : rows.flatten.length ≤ 100000000) (w : World) (hk : SB w (.slice sk nk ck) nk key) (ht : SB w (.slice st nt ct) nt tag) (hp : SM w (.slice sp np cp) np rows) :
    Calls Try.prog 51 #[.slice sk nk ck, .slice st nt ct, .slice sp np cp] w fun e w' => e = .returned (.bool (goodB key rows.flatten tag)) ∧ Below w.heap.size w w' := by
  have hl := Lib.hid ht.1
  have hlc := ht.unpack.2.1
  have hlc1 := ht.unpack.1
  have V0 := Lib.hid ht
  by_cases h1 : 1 ≤ nt
  · by_cases h2 : nt ≤ 20
    · have h1' : ¬ (nt : Int) < 1 := by omega
      have h2' : ¬ (20 : Int) < nt := by omega
      have hg : goodB key rows.flatten tag = decide (tag = (hmacN key rows.flatten).take nt) := by
        unfold goodB
        rw [hl.out]; simp [h1, h2]
      have hT := Lib.hid (tag_ok sk nk ck sp np cp nt key rows (by omega) (by omega) hnk hnp hsz w hk hp)
      rw [hg]
      clear hg hk hp ht
      have e1 : min ((nt : Int).toNat) 20 = nt := by omega
      rw [Int.toNat_natCast] at hT e1
      rw [e1] at hT
      generalize (hmacN key rows.flatten).take nt = H at *
      generalize hq : decide (tag = H) = q at *
      replace hq := Lib.hid hq
      replace e1 := Lib.hid e1
      have B := Lib.hid (BW.refl w)
      go_enter Try.func51, Try.ntmps51
      go_wp2_with fail
      refine Calls.mono (hT.out) ?_
      rintro e w1 ⟨v1, rfl, O1, hb⟩
      replace hb : BW w w1 := BW.call (by repeat (first | exact BW.refl _ | apply BW.alloc | apply BW.drewN | apply BW.drew)) hb
      replace B := Lib.hid (B.out.trans hb)
      replace V0 := Lib.hid (V0.out.bw hb)
      clear hb
      dsimp only
      have hS := same_ok _ _ _ _ _ _ w1 V0.out O1.sb
      rw [hq.out] at hS
      replace hS := Lib.hid hS
      clear O1
      go_wp2_with fail
      refine Calls.mono (hS.out) ?_
      rintro e w2 ⟨rfl, hb⟩
      replace hb : BW w1 w2 := BW.call (by repeat (first | exact BW.refl _ | apply BW.alloc | apply BW.drewN | apply BW.drew)) hb
      replace B := Lib.hid (B.out.trans hb)
      replace V0 := Lib.hid (V0.out.bw hb)
      clear hb
      dsimp only
      go_wp2_with fail
      go_ret
      exact ⟨rfl, B.out⟩
    · have h1' : ¬ (nt : Int) < 1 := by omega
      have h2' : (20 : Int) < nt := by omega
      have hg : goodB key rows.flatten tag = false := by
        unfold goodB
        rw [hl.out]; simp [h2]
      rw [hg]
      clear hg hk hp ht
      go_enter Try.func51, Try.ntmps51
      go_wp2_with fail
      go_ret
      exact ⟨rfl, BW.refl _⟩
  · have h1' : (nt : Int) < 1 := by omega
    have hg : goodB key rows.flatten tag = false := by
      unfold goodB
      rw [hl.out]; simp [h1]
    rw [hg]
    clear hg hk hp ht
    go_enter Try.func51, Try.ntmps51
    go_wp2_with fail
    go_ret
    exact ⟨rfl, BW.refl _⟩
end Go.Proofs.Ytjjemkfkpnemoaa
