/- mac: the key's block. No condition but the sizes'. -/
import Derived.Test.YtjjemkfkpnemoaaMcA
import Derived.Test.YtjjemkfkpnemoaaShL
namespace Go.Proofs.Ytjjemkfkpnemoaa
open Go.RowKit

/-- The key's block. -/
def bkey (key : List Nat) : List Nat := (fun k => k ++ List.replicate (64 - k.length) 0) (if 64 < key.length then sumN key else key)
theorem digest_byt (H : List Nat) : ByL (digest H) := by
  unfold digest
  exact ((((ByL.append (putB_byt _ _) (putB_byt _ _)).append (putB_byt _ _)).append (putB_byt _ _)).append (putB_byt _ _))
theorem sum_byt (m : List Nat) : ByL (sumN m) := digest_byt _
theorem bkey_len (key : List Nat) : (bkey key).length = 64 := by
  unfold bkey
  split
  · rw [List.length_append, List.length_replicate, sum_len]
  · rw [List.length_append, List.length_replicate]; omega
/-- What a whole array of bytes reads as. -/
theorem SB_of_row {w : World} {g : Nat} {l : List Nat} {t : TypeId} {fr : Nat × Nat} (h : w.heap[g]? = some (.cells (ivA .u8 l) t fr)) (hb : ByL l) (n cap : Nat) (hn : n ≤ l.length) (hc : n ≤ cap) (hm : cap ≤ maxLen) : SB w (.slice (some ⟨g, 0, none⟩) n cap) n (l.take n) := by
  refine SB.mk' (by rw [List.length_take]; omega) (hb.take n) hc hm (hp_lt h) fun j hj => ?_
  rw [Nat.zero_add, iv_cell h j (by omega)]
  simp [List.getD_eq_getElem?_getD, List.getElem?_take, hj]

set_option maxRecDepth 100000 in
set_option maxHeartbeats 4000000 in
theorem blockOf_ok (sa : Option Addr) (ln cp : Nat) (key : List Nat) (hn : ln ≤ 1000000000) (w : World) (hv : SB w (.slice sa ln cp) ln key) :
    Calls Try.prog 70 #[.slice sa ln cp] w fun e w' => ∃ v, e = .returned v ∧ OB w' w.heap.size 5 v 64 (bkey key) ∧ Below w.heap.size w w' := by
  have hkl := Lib.hid hv.1
  have hcp : ln ≤ cp ∧ cp ≤ 2 ^ 63 - 1 := by
    obtain ⟨sa', cap, he, h1, h2⟩ := hv.len
    cases he
    unfold maxLen at h2
    exact ⟨h1, h2⟩
  by_cases h64 : 64 < ln
  · have hbk : Hid (bkey key = sumN key ++ List.replicate 44 0) := by
      unfold Hid bkey
      rw [if_pos (by rw [hkl.out]; exact h64)]
      show sumN key ++ List.replicate (64 - (sumN key).length) 0 = _
      rw [sum_len]
    have hSl := Lib.hid (sum_len key)
    have hSb := Lib.hid (sum_byt key)
    have hf : ([key] : List (List Nat)).flatten = key := by simp
    have s2 := fun w1 v hv h => Lib.hid (shasum_any v 1 [key] h w1 hv)
    rw [hf] at s2
    have hf2 : key.length ≤ 1000000000 := by rw [hkl.out]; exact hn
    have s3 := Lib.hid ((s2 _ _ (SM.one w _ _ _ hv) hf2).out)
    have B1 := Lib.hid ((Below.refl w.heap.size w).alloc (Nat.le_refl _) (.cells #[.slice sa ln cp] 37))
    clear s2 hf hf2 hv
    generalize sumN key = D at *
    go_enter Try.func70, Try.ntmps70
    go_wp2_with fail
    refine s3.out.mono ?_
    rintro e w2 ⟨rfl, hb⟩
    have B2 := Lib.hid (B1.out.trans (hb.mono B1.out.size))
    clear hb s3 B1
    dsimp only
    have R2 := Lib.hid (hp_new w2 (.cells (ivA .u8 D) 42) _ rfl)
    have B3 := Lib.hid (B2.out.alloc B2.out.size (.cells (ivA .u8 D) 42))
    go_upto_region 4 with (first | (refine wpList_alloc_of rfl 42 rfl _ zero20 ?_) | (refine wpList_store_new rfl 42 _ _ rfl _ (ivA .u8 D) _ rfl rfl (by rw [info20, ivA_size, hSl.out]) (by rw [ivA_size, ivA_size, hSl.out, zeros_len]) (ivA_one _ _) ?_))
    have V3 := Lib.hid (SB_of_row R2.out hSb.out 20 20 (by rw [hSl.out]; exact Nat.le_refl _) (Nat.le_refl _) (by decide))
    rw [List.take_of_length_le (by rw [hSl.out]; exact Nat.le_refl _)] at V3
    generalize w2.alloc (.cells (ivA .u8 D) 42) = w3 at *
    generalize w2.heap.size = b2 at *
    have cl := Lib.hid (clone_ok (some ⟨b2, 0, none⟩) 20 20 D (by omega) w3 V3.out)
    clear V3 R2
    go_wp2_with fail
    refine cl.out.mono ?_
    rintro e w4 ⟨v, rfl, O4, hb⟩
    have B4 := Lib.hid (B3.out.trans (hb.mono B3.out.size))
    replace O4 := Lib.hid (O4.up (base' := w.heap.size) B3.out.size)
    obtain ⟨s4, c4, rfl, hc4, hm4⟩ := O4.out.len
    clear hb cl
    have hz4 := B4.out.size
    dsimp only
    go_wp2_with (at_builtin; go_must (refine wpList_apOBz rfl _ _ rfl w.heap.size _ 20 D rfl O4.out 44 rfl (by omega) hz4 ?_; intro s5 c5 w5 hc5 hm5 O5 T5 B5 G5; replace O5 := Lib.hid O5; replace B5 := Lib.hid (B4.out.trans B5); clear T5 G5))
    go_ret
    exact ⟨_, rfl, by rw [hbk.out]; exact O5.out, B5.out⟩
  · have hbk : Hid (bkey key = key ++ List.replicate (64 - ln) 0) := by
      unfold Hid bkey
      rw [if_neg (by rw [hkl.out]; exact h64)]
      show key ++ List.replicate (64 - key.length) 0 = _
      rw [hkl.out]
    have cl := Lib.hid (clone_ok sa ln cp key (by omega) w hv)
    have h64' : ¬ (64 : Int) < ln := by omega
    clear hv
    go_enter Try.func70, Try.ntmps70
    go_wp2_with fail
    refine cl.out.mono ?_
    rintro e w4 ⟨v, rfl, O4, hb⟩
    have B4 := Lib.hid hb
    replace O4 := Lib.hid O4
    obtain ⟨s4, c4, rfl, hc4, hm4⟩ := O4.out.len
    clear hb cl
    have hz4 := B4.out.size
    have hsb : ((64 : Int) - (ln : Int)) = ((64 - ln : Nat) : Int) := by omega
    have hs64 : ln + (64 - ln) = 64 := by omega
    generalize 64 - ln = d at *
    dsimp only
    go_wp2_with (at_builtin; go_must (refine wpList_apOBz rfl _ _ rfl w.heap.size _ ln key rfl O4.out d (by first | rfl | exact congrArg _ hsb) (by omega) hz4 ?_; intro s5 c5 w5 hc5 hm5 O5 T5 B5 G5; rw [hs64] at O5; replace O5 := Lib.hid O5; replace B5 := Lib.hid (B4.out.trans B5); clear T5 G5))
    go_ret
    exact ⟨_, rfl, by rw [hbk.out]; simp only [hs64]; exact O5.out, B5.out⟩
end Go.Proofs.Ytjjemkfkpnemoaa
