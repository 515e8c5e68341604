/- Frames: the laws' words: tagged; frames and replies that come in as plain data. No condition but the sizes'. -/
import Derived.Test.YtcempndfbckcaaaFrP
import Derived.Test.YtcempndfbckcaaaFrH
import Derived.Test.YtcempndfbckcaaaFrJ
import Derived.Test.YtcempndfbckcaaaFrK
import Derived.Test.YtcempndfbckcaaaGFs
namespace Go.Proofs.Ytcempndfbckcaaa
open Go.RowKit

set_option maxRecDepth 100000 in
set_option maxHeartbeats 8000000 in
theorem tgd_any (sb : Option Addr) (n cb : Nat) (l : List Nat) (sk : Option Addr) (nk ck : Nat) (key : List Nat) (w : World) (h : SB w (.slice sb n cb) n l) (hk : SB w (.slice sk nk ck) nk key) (h10 : 10 ≤ n) (hn : n ≤ 1000000) (hnk : nk ≤ 1000000) :
    Calls Try.prog 33 #[.slice sb n cb, .slice sk nk ck] w fun e w' => e = .returned (.bool (goodB key (l.take (n - 10)) (l.drop (n - 10)))) ∧ BW w w' := by
  obtain ⟨N, hN⟩ : ∃ N, N = n - 10 := ⟨_, rfl⟩
  rw [← hN]
  have qN : (n : Int) - 10 = (N : Int) := by omega
  have hNn : N ≤ n := by omega
  obtain ⟨_, _, he, hc, hm⟩ := h.len
  cases he
  obtain ⟨_, _, he, hkc, hkm⟩ := hk.len
  cases he
  unfold maxLen at hm hkm
  have hll := h.1
  have ht : (l.drop N).length = 10 := by rw [List.length_drop]; omega
  have hgd : goodB key (l.take N) (l.drop N) = decide (l.drop N = (hmacN key (l.take N)).take 10) := by
    unfold goodB
    rw [ht]; rfl
  have r1 := fun w => run_cut_h (P := Try.prog) Try.underlying36 info_u8 sb n cb N (N : Int) rfl .i64 (by omega) w
  have r2 := fun w => run_cut_l (P := Try.prog) Try.underlying36 info_u8 sb n cb N (N : Int) rfl .i64 (by omega) w
  have SBody := sb_take h N (by omega)
  have STag := h.cut N n cb (by omega) (Nat.le_refl _) hc (Nat.le_refl _)
  rw [show (l.drop N).take (n - N) = l.drop N from List.take_of_length_le (by rw [List.length_drop, hll]; exact Nat.le_refl _)] at STag
  have cT := fun wz (hb : BW w wz) => Lib.hid (rtag_ok sk nk ck sb N cb 10 key (l.take N) (by decide) (by decide) (by omega) (by omega) wz (hk.bw hb) (SBody.bw hb))
  simp only [show (10 : Int).toNat = 10 from rfl, show min 10 20 = 10 from rfl] at cT
  have hTb : ByL ((hmacN key (l.take N)).take 10) := (hmac_byt _ _).take _
  have hq := bstr_eqb hTb STag.2.1
  have hqq : decide ((hmacN key (l.take N)).take 10 = l.drop N) = goodB key (l.take N) (l.drop N) := by rw [hgd]; exact decide_eq_decide.2 ⟨fun h => h.symm, fun h => h.symm⟩
  rw [hqq] at hq
  generalize goodB key (l.take N) (l.drop N) = G at *
  generalize (hmacN key (l.take N)).take 10 = T at *
  generalize cutA sb N cb 1 = st at *
  have k2 := fun y : LaterS [] w => conv_sb (STag.bw y.bw)
  have hnN : n - N = 10 := by omega
  generalize l.drop N = L2 at *
  clear h hk SBody hN ht hgd hqq hTb hll STag
  replace cT := Lib.hid cT
  replace hnN := Lib.hid hnN
  go_enter Try.func33, Try.ntmps33
  go_upto_region 2 with (fail)
  clear qN
  refine wp_region_gg [] [] [] (by kernel_rfl) ?_
  refine hoist [] [] (a1 := ?_) 0 rfl (by kernel_rfl) (.inl ⟨rfl, rfl⟩) rfl rfl rfl (fun x K hK => ?_) ?_
  rotate_left
  · go_big_quiet_op
    exact hK
  refine hoist [] [] (a1 := ?_) 1 rfl (by kernel_rfl) (.inl ⟨rfl, rfl⟩) rfl rfl rfl (fun x K hK => ?_) ?_
  rotate_left
  · go_big_quiet_op
    exact hK
  refine hoist [] [] (a1 := ?_) 2 rfl (by kernel_rfl) (.inl ⟨rfl, rfl⟩) rfl rfl rfl (fun x K hK => ?_) ?_
  rotate_left
  · go_big_quiet_op
    exact hK
  refine hoist [] [] (a1 := ?_) 3 rfl (by kernel_rfl) (.inl ⟨rfl, rfl⟩) rfl rfl rfl (fun x K hK => ?_) ?_
  rotate_left
  · go_big_quiet_op
    exact hK
  refine hoist [] [] (a1 := ?_) 6 rfl (by kernel_rfl) (.inl ⟨rfl, rfl⟩) rfl rfl rfl (fun x K hK => ?_) ?_
  rotate_left
  · go_big_quiet_op
    exact hK
  refine hoist [] [] (a1 := ?_) 7 rfl (by kernel_rfl) (.inl ⟨rfl, rfl⟩) rfl rfl rfl (fun x K hK => ?_) ?_
  rotate_left
  · go_big_quiet_op
    exact hK
  refine hoist [] [] (a1 := ?_) 8 rfl (by kernel_rfl) (.inl ⟨rfl, rfl⟩) rfl rfl rfl (fun x K hK => ?_) ?_
  rotate_left
  · go_big_quiet_op
    exact hK
  refine hoist [] [] (a1 := ?_) 9 rfl (by kernel_rfl) (.inl ⟨rfl, rfl⟩) rfl rfl rfl (fun x K hK => ?_) ?_
  rotate_left
  · go_big_quiet_op
    exact hK
  refine effect 4 rfl (by kernel_rfl) (by kernel_rfl) rfl (fun x4 K hK => ?_)
  go_simp
  refine Calls.mono (cT.out x4.now x4.bw).out ?_
  rintro e w4 ⟨v4, rfl, O4, hb⟩
  obtain ⟨s4, c4, rfl, _, _⟩ := O4.len
  refine hK _ _ (Still.of_below hb) ?_
  clear hK K
  have k1 := fun y : LaterS [] w4 => conv_sb (O4.sb.bw y.bw)
  have B4 := Lib.hid (x4.bw.trans hb)
  clear hb O4
  try simp only [Act.put, List.setIfInBounds_toArray, List.set_cons_succ, List.set_cons_zero]
  refine hoist [] [] (a1 := ?_) 5 rfl (by kernel_rfl) (.inl ⟨rfl, rfl⟩) rfl rfl rfl (fun x K hK => ?_) ?_
  rotate_left
  · go_big_quiet_op
    exact hK
  refine hoist [] [] (a1 := ?_) 10 rfl (by kernel_rfl) (.inl ⟨rfl, rfl⟩) rfl rfl rfl (fun x K hK => ?_) ?_
  rotate_left
  · go_big_quiet_op
    exact hK
  refine hoist [] [] (a1 := ?_) 11 rfl (by kernel_rfl) (.inl ⟨rfl, rfl⟩) rfl rfl rfl (fun x K hK => ?_) ?_
  rotate_left
  · go_big_quiet_op
    exact hK
  refine done (by kernel_rfl) (fun xr => ?_)
  have B5 := Lib.hid (B4.out.trans xr.bw)
  go_wp2_with fail
  go_ret
  exact ⟨rfl, B5.out⟩
end Go.Proofs.Ytcempndfbckcaaa
