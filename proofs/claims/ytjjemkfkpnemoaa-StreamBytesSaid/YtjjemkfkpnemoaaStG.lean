/- stream.Bytes, stream.Cipher. No condition but the sizes'. -/
import Derived.Test.YtjjemkfkpnemoaaStF
namespace Go.Proofs.Ytjjemkfkpnemoaa
open Go.RowKit

theorem Gen.stillT {w w' : World} {base g5 g3 gx : Nat} {W : List Nat} {x : Nat} (h : Gen w base g5 g3 gx W x) {v : Value} {n : Nat} {l : List Nat} {b0 : Nat} (hO : OB w b0 5 v n l) (hs : Still v.ownBlock.toList w w') : Gen w' base g5 g3 gx W x :=
  ⟨h.1, hp_st hs h.2.1 (hO.notin h.2.1 (by decide)), h.2.2.1.still hs (hO.notin h.2.2.1 (by decide)), hp_st hs h.2.2.2.1 (hO.notin h.2.2.2.1 (by decide)), h.2.2.2.2⟩
theorem OB.stillG {w w' : World} {base : Nat} {v : Value} {n : Nat} {l : List Nat} (h : OB w base 5 v n l) {g : Nat} {k : List Nat} (hg : AvB w g 28 k) (hs : Still [g] w w') : OB w' base 5 v n l :=
  h.still hs (fun j hj => by have := h.2.2.ne hg (by decide) j hj; simpa using this)

set_option maxRecDepth 100000 in
set_option maxHeartbeats 8000000 in
theorem bytes_ok (key c : List Nat) (a : Int) (h1 : -9223372036854775808 ≤ a) (h2 : a ≤ 9223372036854775807) (hk : key.length = 16) (hkb : Byt key) (hc : c.length = 16) (hcb : ByL c) (w : World) :
    Calls Try.prog 34 #[.agg (ivA .u8 key), .agg (ivA .u8 c), .int .i64 a] w fun e w' => ∃ v, e = .returned v ∧ OB w' w.heap.size 5 v (min a.toNat 4096) (strm (wordsN key) (numB c) (min a.toNat 4096)) ∧ Below w.heap.size w w' := by
  have hcc := putB_numB c hcb
  rw [hc] at hcc
  have cb := fun wz => Lib.hid (blocks_ok key (numB c) hk hkb wz)
  rw [hcc] at cb
  generalize wordsN key = W at *
  obtain ⟨N, hN, hN1⟩ : ∃ N, min a.toNat 4096 = N ∧ N ≤ 4096 := ⟨_, rfl, by omega⟩
  rw [hN]
  generalize numB c = x at *
  replace hk := Lib.hid hk
  replace hkb := Lib.hid hkb
  replace hc := Lib.hid hc
  replace hcb := Lib.hid hcb
  replace hcc := Lib.hid hcc
  have B := Lib.hid (BW.refl w)
  go_enter Try.func34, Try.ntmps34
  go_upto_region 1 with (fail)
  have K1 := Lib.hid ((AvB.new w 28 key).bw (show BW (w.alloc (.cells (ivA .u8 key) 28)) ((w.alloc (.cells (ivA .u8 key) 28)).alloc (.cells (ivA .u8 c) 28)) from (by repeat (first | exact BW.refl _ | apply BW.alloc | apply BW.drewN | apply BW.drew))))
  have C1 := Lib.hid ((AvB.new (w.alloc (.cells (ivA .u8 key) 28)) 28 c).bw (show BW ((w.alloc (.cells (ivA .u8 key) 28)).alloc (.cells (ivA .u8 c) 28)) ((w.alloc (.cells (ivA .u8 key) 28)).alloc (.cells (ivA .u8 c) 28)) from (by repeat (first | exact BW.refl _ | apply BW.alloc | apply BW.drewN | apply BW.drew))))
  simp only [World.size_alloc] at C1
  generalize hnm : ((w.alloc (.cells (ivA .u8 key) 28)).alloc (.cells (ivA .u8 c) 28)) = w1 at *
  have hb : BW w w1 := (by subst hnm; exact (by repeat (first | exact BW.refl _ | apply BW.alloc | apply BW.drewN | apply BW.drew)))
  replace B := Lib.hid (B.out.trans hb)
  clear hb
  clear hnm
  try simp only [World.size_alloc]
  go_upto_region 1 with (fail)
  go_cut [2] (fun v wc => v = .int .i64 (N : Nat) ∧ w1 = wc)
  case first =>
    by_cases q1 : a < 0
    · go_wp2_with fail
      go_meet
      exact ⟨by rw [show (N : Int) = 0 by omega], rfl⟩
    · by_cases q2 : 4096 < a
      · go_wp2_with fail
        go_meet
        exact ⟨by rw [show (N : Int) = 4096 by omega], rfl⟩
      · go_wp2_with fail
        go_meet
        exact ⟨by rw [show (N : Int) = a by omega], rfl⟩
  case rest =>
    obtain ⟨rfl, rfl⟩ := hcut
    go_wp2_with (first | (refine ldA ar16 rfl rfl rfl K1.out hk.out ?_) | (refine ldA ar16 rfl rfl rfl C1.out hc.out ?_))
    refine Calls.mono (cb w1).out ?_
    rintro e w2 ⟨g5, g3, gx, rfl, G, hb⟩
    replace G := Lib.hid (show Gen w2 w.heap.size g5 g3 gx W x from ⟨by have := B.out.size; have := G.1; omega, G.2⟩)
    have hb : BW w1 w2 := hb
    replace B := Lib.hid (B.out.trans hb)
    replace K1 := Lib.hid (K1.out.bw hb)
    replace C1 := Lib.hid (C1.out.bw hb)
    clear hb
    clear cb K1 C1
    dsimp only
    go_wp2_with fail
    go_loopg [7] ((N + 15) / 16) (fun m' vo wx => ∃ (q : Nat) (s : Option Addr) (cp : Nat), m' = (N + 15) / 16 - q ∧ 16 * q < N + 16 ∧ vo = .slice s (16 * q) cp ∧ 16 * q ≤ cp ∧ cp ≤ 9223372036854775807 ∧ Hid (OB wx w.heap.size 5 vo (16 * q) (strm W x (16 * q))) ∧ Hid (Gen wx w.heap.size g5 g3 gx W (x + q)) ∧ Hid (BW w wx))
    case atStart => exact ⟨0, none, 0, by omega, by omega, rfl, by omega, by omega, OB.nil _ _ _, G, B⟩
    case round =>
      clear G B
      obtain ⟨q, s, cp, rfl, hq, rfl, hcp1, hcp2, O, G, B⟩ := hrel
      have hbl := Lib.hid (strm_block W x q)
      have hBl := Lib.hid (blockN_len W (putB 16 (x + q)))
      have hBb := Lib.hid (byl_of (blockN_byt G.out.2.2.2.2.2 (putB_byt' 16 (x + q))))
      have gk := Lib.hid (gen_ok w.heap.size g5 g3 gx W (x + q) wr G.out)
      by_cases hqn : 16 * q < N
      · obtain ⟨L, hL⟩ : ∃ L, 16 * q = L := ⟨_, rfl⟩
        have hL1 : 16 * (q + 1) = L + 16 := by omega
        rw [hL1] at hbl
        rw [hL] at O hqn hq hbl ⊢
        have d : (L : Int) < N := by omega
        generalize blockN W (putB 16 (x + q)) = Bk at *
        go_wp2_with fail
        refine Calls.mono gk.out ?_
        rintro e w5 ⟨rfl, G5, T5⟩
        have O5 := Lib.hid (O.out.stillG G.out.2.2.1 T5)
        have B5 := Lib.hid (B.out.step (T5.below (B := w.heap.size) B.out.size (by simpa using G.out.1)) (Nat.le_refl _))
        replace G5 := Lib.hid G5
        clear G B O T5 gk
        dsimp only
        go_upto_region 6 with (first | (refine alA ar16 rfl rfl ?_) | (refine stN ar16 rfl rfl rfl rfl hBl.out ?_))
        have K6 := Lib.hid ((AvB.new w5 28 Bk).bw (show BW (w5.alloc (.cells (ivA .u8 Bk) 28)) (w5.alloc (.cells (ivA .u8 Bk) 28)) from (by repeat (first | exact BW.refl _ | apply BW.alloc | apply BW.drewN | apply BW.drew))))
        generalize hnm : (w5.alloc (.cells (ivA .u8 Bk) 28)) = w6 at *
        have hb : BW w5 w6 := (by subst hnm; exact (by repeat (first | exact BW.refl _ | apply BW.alloc | apply BW.drewN | apply BW.drew)))
        replace B5 := Lib.hid (B5.out.trans hb)
        replace O5 := Lib.hid (O5.out.bw hb)
        replace G5 := Lib.hid (G5.out.bw hb)
        clear hb
        clear hnm
        try simp only [World.size_alloc]
        try simp only [Act.put, List.setIfInBounds_toArray, List.set_cons_succ, List.set_cons_zero]
        go_wp2_with (at_builtin; go_must (refine wpList_apOB rfl _ _ rfl w.heap.size _ _ _ rfl (O5.out) _ rfl _ _ (K6.out.sb hBb.out 16 hBl.out (by decide)) (by omega) (BW.trans B5.out (by repeat (first | exact BW.refl _ | apply BW.alloc | apply BW.drewN | apply BW.drew))).size ?_; intro s7 c7 w7 hcc7 hmc7 O7 hT hb hG; unfold maxLen at hmc7; replace hG := Lib.hid hG; replace hT := Lib.hid hT; skip))
        replace B5 := Lib.hid (BW.step (BW.trans B5.out (by repeat (first | exact BW.refl _ | apply BW.alloc | apply BW.drewN | apply BW.drew))) hb (Nat.le_refl _))
        replace O7 := Lib.hid O7
        clear hb
        have G7 := Lib.hid (G5.out.stillT O5.out hT.out)
        rw [hbl.out] at O7
        clear hT hG O5 G5 K6
        go_roundg ((N + 15) / 16 - (q + 1))
        case measure => omega
        case rel => exact ⟨q + 1, s7, c7, rfl, by omega, by rw [hL1], by omega, by omega, by rw [hL1]; exact O7, G7, B5⟩
      · have d : ¬ ((16 * q : Nat) : Int) < N := by omega
        have hr := fun w => run_cut_hm (P := Try.prog) Try.underlying37 info_u8 s (16 * q) cp N N (N : Int) (N : Int) rfl rfl .i64 .i64 (Nat.le_refl _) (by omega) w
        have O2 := O.out.cut 0 N N (by omega) (by omega) (Nat.le_refl _) (by omega)
        rw [cutA_zero, Nat.sub_zero, List.drop_zero, strm_take W x _ N (by omega)] at O2
        obtain ⟨L, hL⟩ : ∃ L, 16 * q = L := ⟨_, rfl⟩
        rw [hL] at d hr ⊢
        replace O2 := Lib.hid O2
        clear hbl hBl hBb gk
        go_wp2_with fail
        go_ret
        exact ⟨_, rfl, O2.out, B.out⟩
end Go.Proofs.Ytjjemkfkpnemoaa
