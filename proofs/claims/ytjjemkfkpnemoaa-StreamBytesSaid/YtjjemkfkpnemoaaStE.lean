/- The reference's Cipher. No condition but the sizes'. -/
import Derived.Test.YtjjemkfkpnemoaaStD
import Derived.Test.YtjjemkfkpnemoaaApO
namespace Go.Proofs.Ytjjemkfkpnemoaa
open Go.RowKit

theorem Still.row {w : World} {g : Nat} (cs : Array Value) : Still [g] w (w.setRow g cs) :=
  ⟨rfl, rfl, rfl, by simp [World.setRow], fun k _ hk => by
    simp only [World.setRow, Array.getElem?_modify]
    rw [if_neg (fun e => hk (by simp [e]))]⟩
/-- A step that turns blocks of later make alone. -/
theorem Still.own {S0 S : List Nat} {a b c : World} (T : Still S0 a b) (h : Still S b c) (hS : ∀ k ∈ S, a.heap.size ≤ k) : Still S0 a c :=
  ⟨h.os.trans T.os, h.tape.trans T.tape, h.output.trans T.output, Nat.le_trans T.size h.size, fun k hk hk0 => by
    rw [h.block k (Nat.lt_of_lt_of_le hk T.size) (fun hm => by have := hS k hm; omega)]
    exact T.block k hk hk0⟩
theorem Still.bw' {S : List Nat} {a b c : World} (T : Still S a b) (h : BW b c) : Still S a c := T.own (h.still []) (by simp)
theorem RC.stillT {w w' : World} {g : Nat} {W : List Nat} (h : RC w g W) {p : Nat} {cs : Array Value} {fr : Nat × Nat} (hp : w.heap[p]? = some (.cells cs 28 fr)) (hs : Still [p] w w') : RC w' g W := by
  obtain ⟨gB, cB, vW, h1, h2, xs, k1, k2, k3⟩ := h
  refine ⟨gB, cB, vW, hp_st hs h1 (by have := hp_ne h1 hp (by decide); simpa using this), hp_st hs h2 (by have := hp_ne h2 hp (by decide); simpa using this), xs, k1.still hs (fun g hg => ?_), k2, fun i x hx => (k3 i x hx).still hs (fun g hg => ?_)⟩
  · have := k1.ne hp (by decide) g hg
    simpa using this
  · have := (k3 i x hx).ne hp (by decide) g hg
    simpa using this

theorem RC.bw {w w' : World} {g : Nat} {W : List Nat} (h : RC w g W) (hb : BW w w') : RC w' g W := h.below hb

theorem blockN_byt {W b : List Nat} (hW : Byt W) (_hb : Byt b) : Byt (blockN W b) := keyN_byt 10 hW (turnN_byt _)
set_option maxRecDepth 100000 in
set_option maxHeartbeats 8000000 in
theorem rcipher_ok (key c b : List Nat) (sb : Option Addr) (n cb : Nat) (hk : key.length = 16) (hkb : Byt key) (hc : c.length = 16) (hcb : ByL c) (hn : n ≤ 1000000000) (w : World) (hv : SB w (.slice sb n cb) n b) :
    Calls Try.prog 35 #[.agg (ivA .u8 key), .agg (ivA .u8 c), .slice sb n cb] w fun e w' => ∃ v, e = .returned v ∧ OB w' w.heap.size 5 v n (cipN (wordsN key) (numB c) b) ∧ Below w.heap.size w w' := by
  have hW := Lib.hid (wordsN_byt key hkb)
  have cn := fun wz => Lib.hid (rnew_any key hk hkb wz)
  generalize wordsN key = W at *
  have u := hv.unpack
  have u1 := u.1
  have u2 := u.2.1
  have hbl := Lib.hid u.2.2.1
  have hbb := Lib.hid (byt_of u.2.2.2)
  clear u
  replace hk := Lib.hid hk
  replace hkb := Lib.hid hkb
  replace hc := Lib.hid hc
  replace hcb := Lib.hid hcb
  replace hv := Lib.hid hv
  have B := Lib.hid (BW.refl w)
  go_enter Try.func35, Try.ntmps35
  go_upto_region 1 with (fail)
  have K1 := Lib.hid ((AvB.new w 28 key).bw (show BW (w.alloc (.cells (ivA .u8 key) 28)) ((w.alloc (.cells (ivA .u8 key) 28)).alloc (.cells (ivA .u8 c) 28)) from (by repeat (first | exact BW.refl _ | apply BW.alloc | apply BW.drewN | apply BW.drew))))
  have C1 := Lib.hid ((AvB.new (w.alloc (.cells (ivA .u8 key) 28)) 28 c).bw (show BW ((w.alloc (.cells (ivA .u8 key) 28)).alloc (.cells (ivA .u8 c) 28)) ((w.alloc (.cells (ivA .u8 key) 28)).alloc (.cells (ivA .u8 c) 28)) from (by repeat (first | exact BW.refl _ | apply BW.alloc | apply BW.drewN | apply BW.drew))))
  simp only [World.size_alloc] at C1
  generalize hnm : ((w.alloc (.cells (ivA .u8 key) 28)).alloc (.cells (ivA .u8 c) 28)) = w1 at *
  have hb : BW w w1 := (by subst hnm; exact (by repeat (first | exact BW.refl _ | apply BW.alloc | apply BW.drewN | apply BW.drew)))
  replace B := Lib.hid (B.out.trans hb)
  clear hb
  clear hnm
  try simp only [World.size_alloc]
  go_wp2_with (refine ldA ar16 rfl rfl rfl K1.out hk.out ?_)
  refine Calls.mono (cn w1).out ?_
  rintro e w2 ⟨g, rfl, hg, R2, hb⟩
  have hb : BW w1 w2 := hb
  replace B := Lib.hid (B.out.trans hb)
  replace K1 := Lib.hid (K1.out.bw hb)
  replace C1 := Lib.hid (C1.out.bw hb)
  clear hb
  replace R2 := Lib.hid R2
  clear K1 cn
  dsimp only
  go_wp2_with (refine alA ar16 rfl rfl ?_)
  obtain ⟨p, ep, lp, lc⟩ : ∃ p, w2.heap.size = p ∧ w.heap.size ≤ p ∧ w.heap.size + 1 < p := ⟨_, rfl, B.out.size, C1.out.lt⟩
  have N3 := Lib.hid (AvB.new w2 28 (zeros 16))
  generalize hnm : w2.alloc (.cells (ivA .u8 (zeros 16)) 28) = w3 at *
  have hb : BW w2 w3 := (by subst hnm; exact (by repeat (first | exact BW.refl _ | apply BW.alloc | apply BW.drewN | apply BW.drew)))
  replace B := Lib.hid (B.out.trans hb)
  replace C1 := Lib.hid (C1.out.bw hb)
  replace R2 := Lib.hid (R2.out.bw hb)
  clear hb
  clear hnm
  rw [ep] at N3 ⊢
  clear ep
  have lp3 := N3.out.lt
  have sC : ∀ wx, Hid (Still [p] w3 wx → AvB wx (w.heap.size + 1) 28 c) := fun wx h => C1.out.still h (by simp; omega)
  have sR : ∀ wx, Hid (Still [p] w3 wx → RC wx g W) := fun wx h => R2.out.stillT N3.out h
  have sV : ∀ wx, Hid (Still [p] w3 wx → BW w wx) := fun wx h => B.out.step (h.below (B := w.heap.size) B.out.size (by simpa using lp)) (Nat.le_refl _)
  have B3 := B.out.size
  clear C1 R2 B
  go_loopg [8, 10] n (fun m' vo i wx => ∃ (k : Nat) (s : Option Addr) (cp : Nat) (Nl : List Nat), m' = n - k ∧ k ≤ n ∧ i = .int .i64 (k : Nat) ∧ vo = .slice s k cp ∧ Hid (OB wx w3.heap.size 5 vo k (cipN W (numB c) (b.take k))) ∧ Hid (AvB wx p 28 Nl) ∧ Hid (Nl.length = 16) ∧ Hid (k % 16 ≠ 0 → Nl = blockN W (putB 16 (numB c + k / 16))) ∧ Hid (Still [p] w3 wx))
  case atStart => exact ⟨0, none, 0, zeros 16, by omega, by omega, rfl, rfl, OB.nil _ _ _, N3, zeros_len 16, fun h => absurd rfl h, Still.refl _ _⟩
  case round =>
    clear N3
    obtain ⟨k, s, cp, Nl, rfl, hk2, rfl, rfl, O, N, Nn, Ne, T⟩ := hrel
    by_cases hkn : k < n
    · have e1 := Lib.hid (cipN_snoc W (numB c) b k (by rw [hbl.out]; exact hkn))
      have hBl := Lib.hid (blockN_len W (putB 16 (numB c + k / 16)))
      have hBb := Lib.hid (blockN_byt hW.out (putB_byt' 16 (numB c + k / 16)))
      have cp1 := Lib.hid (rplus_ok c (k / 16) ((k : Int) / 16) (by omega) (by omega) hc.out hcb.out)
      have cb1 := fun wz hb2 hR => Lib.hid (rblock_any W (putB 16 (numB c + k / 16)) g (putB_len _ _) hb2 hW.out wz hR)
      generalize hBk : blockN W (putB 16 (numB c + k / 16)) = Bk at *
      have hBkl : Hid (Bk.length = 16) := hBl
      have hBkb : Hid (Byt Bk) := hBb
      replace hBk := Lib.hid hBk
      go_upto_if 21 with (fail)
      go_cut [] (fun wc => Hid (AvB wc p 28 Bk) ∧ Hid (Still [p] w3 wc) ∧ Hid (OB wc w3.heap.size 5 (.slice s k cp) k (cipN W (numB c) (b.take k))))
      case first =>
        by_cases h16 : k % 16 = 0
        · have d : ((k : Int) % 16 == 0) = true := by rw [beq_iff_eq]; omega
          go_wp2_with (refine ldA ar16 rfl rfl rfl ((sC wr).out T.out) hc.out ?_)
          refine Calls.mono (cp1.out wr) ?_
          rintro e w5 ⟨rfl, hb5⟩
          have T5 := Lib.hid (T.out.bw' hb5)
          have N5 := Lib.hid (N.out.bw hb5)
          have O5 := Lib.hid (O.out.bw hb5)
          clear hb5
          dsimp only
          go_wp2_with fail
          refine Calls.mono (cb1 w5 (putB_byt' _ _) ((sR w5).out T5.out)).out ?_
          rintro e w6 ⟨rfl, hb6⟩
          have T6 := Lib.hid (T5.out.bw' hb6)
          have N6 := Lib.hid (N5.out.bw hb6)
          have O6 := Lib.hid (O5.out.bw hb6)
          clear hb6 T5 N5 O5
          dsimp only
          have T7 := Lib.hid (T6.out.trans (Still.row (w := w6) (g := p) (ivA .u8 Bk)))
          have N7 := Lib.hid (N6.out.row Bk)
          have O7 := Lib.hid (O6.out.still (Still.row (w := w6) (g := p) (ivA .u8 Bk)) (fun g hg => by have := O6.out.ge' g hg; simp; omega))
          go_wp2_with (refine stR ar16 rfl rfl rfl rfl N6.out Nn.out hBkl.out ?_)
          go_meet
          exact ⟨N7, T7, O7⟩
        · have d : ((k : Int) % 16 == 0) = false := by rw [beq_eq_false_iff_ne]; omega
          have e := Ne.out h16
          rw [e] at N
          replace e := Lib.hid e
          go_wp2_with fail
          go_meet
          exact ⟨N, T, O⟩
      case rest =>
        clear N T O Ne Nn cb1 cp1 hBb hBl
        obtain ⟨N, T, O⟩ := hcut
        obtain ⟨gb, o, cap, he, _, _, _, hcell⟩ := (hv.out.bw ((sV wc).out T.out)).form (by omega)
        cases he
        have c1 := hcell k hkn
        have c2 := N.out.cell (k % 16) (by rw [hBkl.out]; omega)
        have hy1 := hbb.out k
        have hy2 := hBkb.out (k % 16)
        generalize b.getD k 0 = y1 at *
        generalize Bk.getD (k % 16) 0 = y2 at *
        have hX := u8_xor_nat y1 y2 hy1 hy2
        have hy : y1 ^^^ y2 < 256 := Nat.xor_lt_two_pow (n := 8) hy1 hy2
        generalize y1 ^^^ y2 = y at *
        obtain ⟨j, ej, hj⟩ : ∃ j : Nat, (k : Int) % 16 = (j : Int) ∧ k % 16 = j := ⟨k % 16, by omega, rfl⟩
        have hj16 : j < 16 := by omega
        rw [hj] at c2
        replace hj := Lib.hid hj
        have l1 : ∀ x : LaterS [] wc, x.now.cell? ⟨gb, o + k, none⟩ = some (.int .u8 (y1 : Nat)) := fun x => x.cell c1 (by simp)
        have l2 : ∀ x : LaterS [] wc, x.now.cell? ⟨p, j, none⟩ = some (.int .u8 (y2 : Nat)) := fun x => x.cell c2 (by simp)
        have q1 : (0 : Int) ≤ (k : Int) := by omega
        have q2 : (k : Int) < (n : Int) := by omega
        have q4 : (0 : Int) ≤ (j : Int) := by omega
        have q5 : (j : Int) < 16 := by omega
        have hwc := T.out.size
        clear c1 c2 hcell
        go_wp2_with fail
        refine wp_region_gg [] [] [11] (by kernel_rfl) ?_
        refine hoist [] [] (a1 := ?_) 0 rfl (by kernel_rfl) (.inl ⟨rfl, rfl⟩) rfl rfl rfl (fun x K hK => ?_) ?_
        rotate_left
        · go_big_quiet_op
          exact hK
        refine hoist [] [] (a1 := ?_) 1 rfl (by kernel_rfl) (.inl ⟨rfl, rfl⟩) rfl rfl rfl (fun x K hK => ?_) ?_
        rotate_left
        · go_big_quiet_op
          exact hK
        refine hoist [] [] (a1 := ?_) 2 rfl (by kernel_rfl) (.inl ⟨rfl, rfl⟩) rfl rfl rfl (fun x K hK => ?_) ?_
        rotate_left
        · go_big_quiet_op
          exact hK
        refine hoist [] [] (a1 := ?_) 3 rfl (by kernel_rfl) (.inl ⟨rfl, rfl⟩) rfl rfl rfl (fun x K hK => ?_) ?_
        rotate_left
        · go_big_quiet_op
          exact hK
        refine hoist [] [] (a1 := ?_) 4 rfl (by kernel_rfl) (.inl ⟨rfl, rfl⟩) rfl rfl rfl (fun x K hK => ?_) ?_
        rotate_left
        · go_big_quiet_op
          exact hK
        refine hoist [] [] (a1 := ?_) 5 rfl (by kernel_rfl) (.inl ⟨rfl, rfl⟩) rfl rfl rfl (fun x K hK => ?_) ?_
        rotate_left
        · go_big_quiet_op
          exact hK
        refine hoist [] [] (a1 := ?_) 6 rfl (by kernel_rfl) (.inl ⟨rfl, rfl⟩) rfl rfl rfl (fun x K hK => ?_) ?_
        rotate_left
        · go_big_quiet_op
          exact hK
        refine hoist [] [] (a1 := ?_) 7 rfl (by kernel_rfl) (.inl ⟨rfl, rfl⟩) rfl rfl rfl (fun x K hK => ?_) ?_
        rotate_left
        · go_big_quiet_op
          exact hK
        refine hoist [] [] (a1 := ?_) 8 rfl (by kernel_rfl) (.inl ⟨rfl, rfl⟩) rfl rfl rfl (fun x K hK => ?_) ?_
        rotate_left
        · go_big_quiet_op
          exact hK
        refine hoist [] [] (a1 := ?_) 9 rfl (by kernel_rfl) (.inl ⟨rfl, rfl⟩) rfl rfl rfl (fun x K hK => ?_) ?_
        rotate_left
        · go_big_quiet_op
          exact hK
        refine effect 10 rfl (by kernel_rfl) (by kernel_rfl) rfl (fun x10 K hK => ?_)
        go_simp
        refine hK _ _ (Still.of_below ((Below.refl _ _).alloc (Nat.le_refl _) _)) ?_
        clear hK K
        try simp only [Act.put, List.setIfInBounds_toArray, List.set_cons_succ, List.set_cons_zero]
        refine tail 11 rfl (by kernel_rfl) rfl (fun xr => ?_)
        simp only [List.drop_succ_cons, List.drop_zero]
        have bb : BW wc xr.now := (x10.bw.alloc).trans xr.bw
        have V10 := (SB.new1 x10.now 5 y hy).bw xr.bw
        have hsz := bb.size
        go_wp2_with (at_builtin; go_must (refine wpList_apOB rfl _ _ rfl w3.heap.size _ _ _ rfl (O.out.bw bb) _ rfl 1 [y] V10 (by omega) (by omega) ?_; intro s2 c2 w6 hc2 hm2 O6 hT hb hG; unfold maxLen at hm2; replace hG := Lib.hid hG; replace hT := Lib.hid hT; rw [e1.out] at O6; replace O6 := Lib.hid O6))
        have T6 := Lib.hid ((T.out.bw' bb).own hT.out (fun g hg => O.out.ge' g (in_toList hg)))
        have N6 := Lib.hid ((N.out.bw bb).still hT.out (fun hm => by have := O.out.ge' p (in_toList hm); omega))
        clear hT hG hb V10 bb
        go_roundg (n - (k + 1))
        case measure => omega
        case rel => exact ⟨k + 1, s2, c2, Bk, rfl, by omega, by go_num, rfl, O6, N6, hBkl, (fun h => by rw [show (k + 1) / 16 = k / 16 by omega]; exact hBk.out.symm), T6⟩
    · obtain rfl : k = n := by omega
      rw [List.take_of_length_le (by rw [hbl.out]; exact Nat.le_refl _)] at O
      have O2 := O.out.up (base' := w.heap.size) (by have := B3; omega)
      go_wp2_with fail
      go_ret
      exact ⟨_, rfl, O2, (sV wr).out T.out⟩
end Go.Proofs.Ytjjemkfkpnemoaa
