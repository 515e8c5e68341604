/- The laws MacTags, MacChecks. No condition. -/
import Derived.Test.YtjjemkfkpnemoaaMcE
import Derived.Test.YtjjemkfkpnemoaaCut
import Derived.Lib.SlBytesConst
namespace Go.Proofs.Ytjjemkfkpnemoaa
open Go.RowKit

def jK : List Nat := [74, 101, 102, 101]
def jA : List Nat := [119, 104, 97, 116, 32, 100, 111, 32, 121, 97, 32, 119, 97, 110, 116, 32]
def jB : List Nat := [102, 111, 114, 32, 110, 111, 116, 104, 105, 110, 103, 63]
theorem mac_jefe : hmacN jK (jA ++ jB) = [0xef, 0xfc, 0xdf, 0x6a, 0xe5, 0xeb, 0x2f, 0xa2, 0xd2, 0x74, 0x16, 0xd5, 0xf1, 0x84, 0xdf, 0x9c, 0x25, 0x9a, 0x7c, 0x79] := by decide +kernel
theorem SB_const (w : World) (c : Array Value) (T : TypeId) (fr : Nat × Nat) (n : Nat) (l : List Nat) (hl : l.length = n) (hb : ByL l) (hm : n ≤ maxLen) (hc : c.toList = bvs l) (g : Nat) (hg : g = w.heap.size) : SB (w.alloc (.cells c T fr)) (.slice (some ⟨g, 0, none⟩) n n) n l := by
  subst hg
  refine SB.mk' hl hb (Nat.le_refl _) hm (by simp) fun j hj => ?_
  rw [Nat.zero_add, hp_cell (hp_new w _ _ rfl), ← Array.getElem?_toList, hc, bvs_get _ _ (by omega)]

/-- []byte("..") of a constant. -/
theorem conv_const (w : World) (g : Nat) (C : Array Value) (n c : Nat) (hg : g = w.heap.size) :
    (convert 37 37 (.slice (some ⟨g, 0, none⟩) n c)).run Try.prog (w.alloc (.cells C 5)) = .ok (.slice (some ⟨g, 0, none⟩) n c) (w.alloc (.cells C 5 (C.size, C.size + 1))) := by
  subst hg
  exact Lib.run_convert_bytes_const (P := Try.prog) w 37 5 C n c Try.underlying37 Try.underlying5
set_option maxRecDepth 100000 in
set_option maxHeartbeats 8000000 in
theorem macalive_any (w : World) : Calls Try.prog 47 #[] w fun e w' => e = .returned (.bool true) ∧ Below w.heap.size w w' := by
  have kc := conv_const
  have B := Lib.hid (BW.refl w)
  go_enter Try.func47, Try.ntmps47
  go_wp2_with fail
  refine Calls.mono (tag_ok (some ⟨w.heap.size, 0, none⟩) 4 4 (some ⟨w.heap.size + 1 + 1 + 1, 0, none⟩) 2 2 20 jK [jA, jB] (by decide) (by decide) (by decide) (by decide) (by decide) _ ?hk ?hp) ?_
  case hk => exact ((((SB_const w _ _ _ 4 jK rfl (by unfold ByL; decide) (by decide) rfl _ rfl).alloc _).alloc _).alloc _)
  case hp =>
    have h2 := SM.two _ _ _ _ _ _ _ ((SB_const (w.alloc (.cells #[.int .u8 74, .int .u8 101, .int .u8 102, .int .u8 101] 5 (4, 5))) _ 5 (16, 17) 16 jA rfl (by unfold ByL; decide) (by decide) rfl (w.heap.size + 1) (by simp)).alloc (.cells #[.int .u8 102, .int .u8 111, .int .u8 114, .int .u8 32, .int .u8 110, .int .u8 111, .int .u8 116, .int .u8 104, .int .u8 105, .int .u8 110, .int .u8 103, .int .u8 63] 5 (12, 13))) (SB_const _ _ _ _ 12 jB rfl (by unfold ByL; decide) (by decide) rfl (w.heap.size + 1 + 1) (by simp))
    simp only [World.size_alloc] at h2
    exact h2
  rintro e w1 ⟨v, rfl, O1, hb⟩
  replace hb : BW w w1 := BW.call (by repeat (first | exact BW.refl _ | apply BW.alloc | apply BW.drewN | apply BW.drew)) hb
  clear kc
  have hf : ([jA, jB] : List (List Nat)).flatten = jA ++ jB := by simp
  rw [hf] at O1
  have hC := conv_sb O1.sb
  have hS : bstr ((hmacN jK (jA ++ jB)).take (20 : Int).toNat) = ⟨#[239, 252, 223, 106, 229, 235, 47, 162, 210, 116, 22, 213, 241, 132, 223, 156, 37, 154, 124, 121]⟩ := by rw [mac_jefe]; rfl
  rw [hS] at hC
  replace hf := Lib.hid hf
  replace hS := Lib.hid hS
  dsimp only
  go_wp2_with fail
  go_ret
  exact ⟨rfl, hb⟩

theorem info_u8' : (Try.prog.info? 5).map (·.size) = some 1 := by kernel_rfl

set_option maxRecDepth 100000 in
set_option maxHeartbeats 8000000 in
theorem law_tags (a0 : Option Addr) (len0 cap0 : Nat) (a1 : Option Addr) (len1 cap1 : Nat) (a2 a3 : Int) (w : World) (w0 : Rd w (.loop (.label 4)) [.slice a0 len0 cap0]) (w1 : Rd w (.loop (.label 4)) [.slice a1 len1 cap1]) (w2 : (Lit.int .i64 a2).wf = true) (w3 : (Lit.int .u8 a3).wf = true) :
    Calls Try.prog 14 #[.slice a0 len0 cap0, .slice a1 len1 cap1, .int .i64 a2, .int .u8 a3] w fun e w' => e = .returned (.bool true) ∧ Below w.heap.size w w' := by
  obtain ⟨key, hk⟩ := SB_of_Rd w0
  obtain ⟨m, hm⟩ := SB_of_Rd w1
  have b2 := bounds_i64 w2
  have b3 := bounds_u8 w3
  obtain ⟨c3, rfl⟩ := Int.eq_ofNat_of_zero_le b3.1
  clear w0 w1 w2 w3
  have uk := hk.unpack
  have um := hm.unpack
  have hml := Lib.hid um.2.2.1
  have q1 := um.1
  have q2 := um.2.1
  have q3 := uk.1
  have q4 := uk.2.1
  clear uk um
  replace hk := Lib.hid hk
  replace hm := Lib.hid hm
  have B := Lib.hid (BW.refl w)
  go_enter Try.func14, Try.ntmps14
  go_wp2_with fail
  refine Calls.mono (macalive_any w) ?_
  rintro e w1 ⟨rfl, hb⟩
  replace hb : BW w w1 := BW.call (by repeat (first | exact BW.refl _ | apply BW.alloc | apply BW.drewN | apply BW.drew)) hb
  replace B := Lib.hid (B.out.trans hb)
  clear hb
  dsimp only
  by_cases h0 : 300 < len0
  · have d0 : (300 : Int) < len0 := by omega
    go_wp2_with fail
    go_ret
    exact ⟨rfl, B.out⟩
  have d0 : ¬ (300 : Int) < len0 := by omega
  by_cases h1 : 600 < len1
  · have d1 : (600 : Int) < len1 := by omega
    go_wp2_with fail
    go_ret
    exact ⟨rfl, B.out⟩
  have d1 : ¬ (600 : Int) < len1 := by omega
  go_upto_if 23 with (fail)
  go_cut [9] (fun k wc => ∃ q : Nat, k = .int .i64 (q : Nat) ∧ q ≤ len1 ∧ w1 = wc)
  case first =>
    by_cases hz : 0 < len1
    · have dz : (0 : Int) < len1 := by omega
      have e2 := Nat.mod_lt c3 hz
      go_wp2_with fail
      go_meet
      exact ⟨c3 % len1, rfl, by omega, rfl⟩
    · have dz : ¬ (0 : Int) < len1 := by omega
      go_wp2_with fail
      go_meet
      exact ⟨0, rfl, by omega, rfl⟩
  case rest =>
    obtain ⟨q, rfl, hq, rfl⟩ := hcut
    go_wp2_with fail
    refine Calls.mono (rtag_ok a0 len0 cap0 a1 len1 cap1 a2 key m b2.1 b2.2 (by omega) (by omega) w1 (hk.out.bw B.out) (hm.out.bw B.out)) ?_
    rintro e w2 ⟨v2, rfl, O2, hb⟩
    replace hb : BW w1 w2 := BW.call (by repeat (first | exact BW.refl _ | apply BW.alloc | apply BW.drewN | apply BW.drew)) hb
    replace B := Lib.hid (B.out.trans hb)
    clear hb
    dsimp only
    obtain ⟨s2, c2, rfl, _, _⟩ := O2.len
    have C2 := conv_sb O2.sb
    clear O2
    generalize hT : (hmacN key m).take a2.toNat = T at *
    generalize hS : bstr T = S at *
    replace hT := Lib.hid hT
    replace hS := Lib.hid hS
    go_upto_region 9 with (fail)
    clear C2
    have q5 : (0 : Int) ≤ (q : Int) := by omega
    have q6 : (q : Int) ≤ (len1 : Int) := by omega
    have q7 : (q : Int) ≤ (cap1 : Int) := by omega
    have hr := fun w => run_cut_l (P := Try.prog) Try.underlying37 info_u8' a1 len1 cap1 q q rfl .i64 hq w
    refine wp_region_gg [] [] [] (by kernel_rfl) ?_
    refine hoist [] [] (a1 := ?_) 0 rfl (by kernel_rfl) (.inl ⟨rfl, rfl⟩) rfl rfl rfl (fun x K hK => ?_) ?_
    rotate_left
    · go_big_quiet_op
      exact hK
    refine hoist [] [] (a1 := ?_) 1 rfl (by kernel_rfl) (.inl ⟨rfl, rfl⟩) rfl rfl rfl (fun x K hK => ?_) ?_
    rotate_left
    · go_big_quiet_op
      exact hK
    refine hoist [] [] (a1 := ?_) 2 rfl (by kernel_rfl) (.inl ⟨rfl, rfl⟩) rfl rfl rfl (fun x K hK => ?_) ?_
    rotate_left
    · go_big_quiet_op
      exact hK
    refine hoist [] [] (a1 := ?_) 6 rfl (by kernel_rfl) (.inl ⟨rfl, rfl⟩) rfl rfl rfl (fun x K hK => ?_) ?_
    rotate_left
    · go_big_quiet_op
      exact hK
    refine effect 3 rfl (by kernel_rfl) (by kernel_rfl) rfl (fun x3 K hK => ?_)
    go_simp
    refine hK _ _ (Still.of_below ((Below.refl _ _).alloc (Nat.le_refl _) _)) ?_
    clear hK K
    try simp only [Act.put, List.setIfInBounds_toArray, List.set_cons_succ, List.set_cons_zero]
    refine effect 4 rfl (by kernel_rfl) (by kernel_rfl) rfl (fun x4 K hK => ?_)
    go_simp
    have hb : BW w2 x3.now := x3.bw
    replace B := Lib.hid (B.out.trans hb)
    clear hb
    have M4 := SM.one x3.now _ _ _ (hm.out.bw B.out)
    refine Calls.mono (tag_ok a0 len0 cap0 _ 1 1 a2 key [m] b2.1 b2.2 (by omega) (by decide) (by simp [hml.out]; omega) _ (hk.out.bw ((B.out.alloc).trans x4.bw)) (M4.bw x4.bw)) ?_
    rintro e w4 ⟨v4, rfl, O4, hb⟩
    obtain ⟨s4, c4, rfl, _, _⟩ := O4.len
    refine hK _ _ (Still.of_below hb) ?_
    clear hK K M4
    have hf : ([m] : List (List Nat)).flatten = m := by simp
    rw [hf, hT.out] at O4
    clear hf
    have C4 : ∀ x : LaterS [] w4, _ := fun x => conv_sb (O4.bw x.bw).sb
    rw [hS.out] at C4
    clear O4
    have hb : BW x3.now w4 := ((BW.refl _).alloc.trans (x4.bw.trans hb))
    replace B := Lib.hid (B.out.trans hb)
    clear hb
    try simp only [Act.put, List.setIfInBounds_toArray, List.set_cons_succ, List.set_cons_zero]
    refine hoist [] [] (a1 := ?_) 5 rfl (by kernel_rfl) (.inl ⟨rfl, rfl⟩) rfl rfl rfl (fun x K hK => ?_) ?_
    rotate_left
    · go_big_quiet_op
      exact hK
    refine hoist [] [] (a1 := ?_) 7 rfl (by kernel_rfl) (.inl ⟨rfl, rfl⟩) rfl rfl rfl (fun x K hK => ?_) ?_
    rotate_left
    · go_big_quiet_op
      exact hK
    refine hoist [] [] (a1 := ?_) 8 rfl (by kernel_rfl) (.inl ⟨rfl, rfl⟩) rfl rfl rfl (fun x K hK => ?_) ?_
    rotate_left
    · go_big_quiet_op
      exact hK
    refine hoist [] [] (a1 := ?_) 9 rfl (by kernel_rfl) (.inl ⟨rfl, rfl⟩) rfl rfl rfl (fun x K hK => ?_) ?_
    rotate_left
    · go_big_quiet_op
      exact hK
    refine hoist [] [] (a1 := ?_) 10 rfl (by kernel_rfl) (.inl ⟨rfl, rfl⟩) rfl rfl rfl (fun x K hK => ?_) ?_
    rotate_left
    · go_big_quiet_op
      exact hK
    refine hoist [] [] (a1 := ?_) 11 rfl (by kernel_rfl) (.inl ⟨rfl, rfl⟩) rfl rfl rfl (fun x K hK => ?_) ?_
    rotate_left
    · go_big_quiet_op
      exact hK
    refine hoist [] [] (a1 := ?_) 12 rfl (by kernel_rfl) (.inl ⟨rfl, rfl⟩) rfl rfl rfl (fun x K hK => ?_) ?_
    rotate_left
    · go_big_quiet_op
      exact hK
    refine hoist [] [] (a1 := ?_) 13 rfl (by kernel_rfl) (.inl ⟨rfl, rfl⟩) rfl rfl rfl (fun x K hK => ?_) ?_
    rotate_left
    · go_big_quiet_op
      exact hK
    refine hoist [] [] (a1 := ?_) 14 rfl (by kernel_rfl) (.inl ⟨rfl, rfl⟩) rfl rfl rfl (fun x K hK => ?_) ?_
    rotate_left
    · go_big_quiet_op
      exact hK
    refine hoist [] [] (a1 := ?_) 15 rfl (by kernel_rfl) (.inl ⟨rfl, rfl⟩) rfl rfl rfl (fun x K hK => ?_) ?_
    rotate_left
    · go_big_quiet_op
      exact hK
    refine hoist [] [] (a1 := ?_) 16 rfl (by kernel_rfl) (.inl ⟨rfl, rfl⟩) rfl rfl rfl (fun x K hK => ?_) ?_
    rotate_left
    · go_big_quiet_op
      exact hK
    refine hoist [] [] (a1 := ?_) 20 rfl (by kernel_rfl) (.inl ⟨rfl, rfl⟩) rfl rfl rfl (fun x K hK => ?_) ?_
    rotate_left
    · go_big_quiet_op
      exact hK
    refine effect 17 rfl (by kernel_rfl) (by kernel_rfl) rfl (fun x17 K hK => ?_)
    go_simp
    refine hK _ _ (Still.of_below ((Below.refl _ _).alloc (Nat.le_refl _) _)) ?_
    clear hK K
    try simp only [Act.put, List.setIfInBounds_toArray, List.set_cons_succ, List.set_cons_zero]
    refine effect 18 rfl (by kernel_rfl) (by kernel_rfl) rfl (fun x18 K hK => ?_)
    go_simp
    have hb : BW w4 x17.now := x17.bw
    replace B := Lib.hid (B.out.trans hb)
    clear hb
    have P1 := (hm.out.bw B.out).cut 0 q cap1 (by omega) hq (by omega) (Nat.le_refl _)
    have P2 := (hm.out.bw B.out).cut q len1 cap1 hq (Nat.le_refl _) (by omega) (Nat.le_refl _)
    rw [cutA_zero, Nat.sub_zero, Nat.sub_zero, List.drop_zero] at P1
    rw [List.take_of_length_le (by rw [List.length_drop, hml.out]; exact Nat.le_refl _)] at P2
    have hf : ([m.take q, m.drop q] : List (List Nat)).flatten = m := by simp
    have M4 := SM.two x17.now _ _ _ _ _ _ P1 P2
    refine Calls.mono (tag_ok a0 len0 cap0 _ 2 2 a2 key [m.take q, m.drop q] b2.1 b2.2 (by omega) (by decide) (by rw [hf, hml.out]; omega) _ (hk.out.bw ((B.out.alloc).trans x18.bw)) (M4.bw x18.bw)) ?_
    rintro e w5 ⟨v5, rfl, O5, hb⟩
    obtain ⟨s5, c5, rfl, _, _⟩ := O5.len
    refine hK _ _ (Still.of_below hb) ?_
    clear hK K M4 P1 P2 C4
    rw [hf, hT.out] at O5
    clear hf
    have C5 : ∀ x : LaterS [] w5, _ := fun x => conv_sb (O5.bw x.bw).sb
    rw [hS.out] at C5
    clear O5
    have hb : BW x17.now w5 := ((BW.refl _).alloc.trans (x18.bw.trans hb))
    replace B := Lib.hid (B.out.trans hb)
    clear hb
    try simp only [Act.put, List.setIfInBounds_toArray, List.set_cons_succ, List.set_cons_zero]
    refine hoist [] [] (a1 := ?_) 19 rfl (by kernel_rfl) (.inl ⟨rfl, rfl⟩) rfl rfl rfl (fun x K hK => ?_) ?_
    rotate_left
    · go_big_quiet_op
      exact hK
    refine hoist [] [] (a1 := ?_) 21 rfl (by kernel_rfl) (.inl ⟨rfl, rfl⟩) rfl rfl rfl (fun x K hK => ?_) ?_
    rotate_left
    · go_big_quiet_op
      exact hK
    refine hoist [] [] (a1 := ?_) 22 rfl (by kernel_rfl) (.inl ⟨rfl, rfl⟩) rfl rfl rfl (fun x K hK => ?_) ?_
    rotate_left
    · go_big_quiet_op
      exact hK
    refine hoist [] [] (a1 := ?_) 23 rfl (by kernel_rfl) (.inl ⟨rfl, rfl⟩) rfl rfl rfl (fun x K hK => ?_) ?_
    rotate_left
    · go_big_quiet_op
      exact hK
    refine done (by kernel_rfl) (fun xr => ?_)
    go_wp2_with fail
    go_ret
    exact ⟨rfl, B.out.trans xr.bw⟩
end Go.Proofs.Ytjjemkfkpnemoaa
