/- What the reference's cipher wants. The reference's Cipher. No condition but the sizes'. stream's blocks, one by one; Bytes, Cipher. No condition but the sizes'. stream.Bytes, stream.Cipher. No condition but the sizes'. stream.Cipher. No condition but the sizes'. -/
import Derived.Test.YtikmhlbpefednaaGreatGTa
import Derived.Test.YtikmhlbpefednaaGreatGV6
import Derived.Test.YtikmhlbpefednaaGreatGW6
import Derived.Test.YtikmhlbpefednaaGreatAesJ
namespace Go.Proofs.YtikmhlbpefednaaGreat
end Go.Proofs.YtikmhlbpefednaaGreat

namespace Go.Proofs.YtikmhlbpefednaaGreat
open Go.RowKit
theorem Still.row {w : World} {g : Nat} (cs : Array Value) : Still [g] w (w.setRow g cs) :=
 ⟨rfl, rfl, rfl, by simp [World.setRow], fun k _ hk => by
  simp only [World.setRow, Array.getElem?_modify]
  rw [if_neg (fun e => hk (by simp [e]))]⟩
theorem Still.own {S0 S : List Nat} {a b c : World} (T : Still S0 a b) (h : Still S b c) (hS : ∀ k ∈ S, a.heap.size ≤ k) : Still S0 a c :=
 ⟨h.os.trans T.os, h.tape.trans T.tape, h.output.trans T.output, Nat.le_trans T.size h.size, fun k hk hk0 => by
  rw [h.block k (Nat.lt_of_lt_of_le hk T.size) (fun hm => by have := hS k hm; omega)]
  exact T.block k hk hk0⟩
theorem Still.bw' {S : List Nat} {a b c : World} (T : Still S a b) (h : BW b c) : Still S a c := T.own (h.still []) (by simp)
theorem RC.stillT {w w' : World} {g : Nat} {W : List Nat} (h : RC w g W) {p : Nat} {cs : Array Value} {fr : Nat × Nat} (hp : w.heap[p]? = some (.cells cs 22 fr)) (hs : Still [p] w w') : RC w' g W := by
 obtain ⟨gB, cB, vW, h1, h2, xs, k1, k2, k3⟩ := h
 refine ⟨gB, cB, vW, hp_st hs h1 (by have := hp_ne h1 hp (by decide); simpa using this), hp_st hs h2 (by have := hp_ne h2 hp (by decide); simpa using this), xs, k1.still hs (fun g hg => ?_), k2, fun i x hx => (k3 i x hx).still hs (fun g hg => ?_)⟩
 ·have := k1.ne hp (by decide) g hg
  simpa using this
 ·have := (k3 i x hx).ne hp (by decide) g hg
  simpa using this
theorem RC.bw {w w' : World} {g : Nat} {W : List Nat} (h : RC w g W) (hb : BW w w') : RC w' g W := h.below hb
theorem blockN_byt {W b : List Nat} (hW : Byt W) (_hb : Byt b) : Byt (blockN W b) := keyN_byt 10 hW (turnN_byt _)
set_option maxRecDepth 100000 in
set_option maxHeartbeats 8000000 in
theorem rcipher_ok (key c b : List Nat) (sb : Option Addr) (n cb : Nat) (hk : key.length = 16) (hkb : Byt key) (hc : c.length = 16) (hcb : ByL c) (hn : n ≤ 1000000000) (w : World) (hv : SB w (.slice sb n cb) n b) :
  Calls Tryz.prog 74 #[.agg (ivA .u8 key), .agg (ivA .u8 c), .slice sb n cb] w fun e w' => ∃ v, e = .returned v ∧ OB w' w.heap.size 5 v n (cipN (wordsN key) (numB c) b) ∧ Below w.heap.size w w' := by
 have hW := Lib.hid (wordsN_byt key hkb)
 have cn := fun wz => Lib.hid (rnew_any key hk hkb wz)
 generalize wordsN key = W at *
 have u := hv.unpack
 have u1 := u.1
 have u2 := u.2.1
 have hbl := Lib.hid u.2.2.1
 have hbb := Lib.hid (byt_of u.2.2.2)
 clear u
 replace hk := Lib.hid hk
 replace hkb := Lib.hid hkb
 replace hc := Lib.hid hc
 replace hcb := Lib.hid hcb
 replace hv := Lib.hid hv
 have B := Lib.hid (BW.refl w)
 go_enter Tryz.func74, Tryz.ntmps74
 go_upto_region 1 with (fail)
 have K1 := Lib.hid ((AvB.new w 22 key).bw (show BW (w.alloc (.cells (ivA .u8 key) 22)) ((w.alloc (.cells (ivA .u8 key) 22)).alloc (.cells (ivA .u8 c) 22)) from (by repeat (first | exact BW.refl _ | apply BW.alloc | apply BW.drewN | apply BW.drew))))
 have C1 := Lib.hid ((AvB.new (w.alloc (.cells (ivA .u8 key) 22)) 22 c).bw (show BW ((w.alloc (.cells (ivA .u8 key) 22)).alloc (.cells (ivA .u8 c) 22)) ((w.alloc (.cells (ivA .u8 key) 22)).alloc (.cells (ivA .u8 c) 22)) from (by repeat (first | exact BW.refl _ | apply BW.alloc | apply BW.drewN | apply BW.drew))))
 simp only [World.size_alloc] at C1
 generalize hnm : ((w.alloc (.cells (ivA .u8 key) 22)).alloc (.cells (ivA .u8 c) 22)) = w1 at *
 have hb : BW w w1 := (by subst hnm; exact (by repeat (first | exact BW.refl _ | apply BW.alloc | apply BW.drewN | apply BW.drew)))
 replace B := Lib.hid (B.out.trans hb)
 clear hb
 clear hnm
 try simp only [World.size_alloc]
 go_wp2_with (refine ldA ar16 rfl rfl rfl K1.out hk.out ?_)
 refine Calls.mono (cn w1).out ?_
 rintro e w2 ⟨g, rfl, hg, R2, hb⟩
 have hb : BW w1 w2 := hb
 replace B := Lib.hid (B.out.trans hb)
 replace K1 := Lib.hid (K1.out.bw hb)
 replace C1 := Lib.hid (C1.out.bw hb)
 clear hb
 replace R2 := Lib.hid R2
 clear K1 cn
 dsimp only
 go_wp2_with (refine alA ar16 rfl rfl ?_)
 obtain ⟨p, ep, lp, lc⟩ : ∃ p, w2.heap.size = p ∧ w.heap.size ≤ p ∧ w.heap.size + 1 < p := ⟨_, rfl, B.out.size, C1.out.lt⟩
 have N3 := Lib.hid (AvB.new w2 22 (zeros 16))
 generalize hnm : w2.alloc (.cells (ivA .u8 (zeros 16)) 22) = w3 at *
 have hb : BW w2 w3 := (by subst hnm; exact (by repeat (first | exact BW.refl _ | apply BW.alloc | apply BW.drewN | apply BW.drew)))
 replace B := Lib.hid (B.out.trans hb)
 replace C1 := Lib.hid (C1.out.bw hb)
 replace R2 := Lib.hid (R2.out.bw hb)
 clear hb
 clear hnm
 rw [ep] at N3 ⊢
 clear ep
 have lp3 := N3.out.lt
 have sC : ∀ wx, Hid (Still [p] w3 wx → AvB wx (w.heap.size + 1) 22 c) := fun wx h => C1.out.still h (by simp; omega)
 have sR : ∀ wx, Hid (Still [p] w3 wx → RC wx g W) := fun wx h => R2.out.stillT N3.out h
 have sV : ∀ wx, Hid (Still [p] w3 wx → BW w wx) := fun wx h => B.out.step (h.below (B := w.heap.size) B.out.size (by simpa using lp)) (Nat.le_refl _)
 have B3 := B.out.size
 clear C1 R2 B
 go_loopg [8, 10] n (fun m' vo i wx => ∃ (k : Nat) (s : Option Addr) (cp : Nat) (Nl : List Nat), m' = n - k ∧ k ≤ n ∧ i = .int .i64 (k : Nat) ∧ vo = .slice s k cp ∧ Hid (OB wx w3.heap.size 5 vo k (cipN W (numB c) (b.take k))) ∧ Hid (AvB wx p 22 Nl) ∧ Hid (Nl.length = 16) ∧ Hid (k % 16 ≠ 0 → Nl = blockN W (putB 16 (numB c + k / 16))) ∧ Hid (Still [p] w3 wx))
 case atStart => exact ⟨0, none, 0, zeros 16, by omega, by omega, rfl, rfl, OB.nil _ _ _, N3, zeros_len 16, fun h => absurd rfl h, Still.refl _ _⟩
 case round =>
  clear N3
  obtain ⟨k, s, cp, Nl, rfl, hk2, rfl, rfl, O, N, Nn, Ne, T⟩ := hrel
  by_cases hkn : k < n
  ·have e1 := Lib.hid (cipN_snoc W (numB c) b k (by rw [hbl.out]; exact hkn))
   have hBl := Lib.hid (blockN_len W (putB 16 (numB c + k / 16)))
   have hBb := Lib.hid (blockN_byt hW.out (putB_byt' 16 (numB c + k / 16)))
   have cp1 := Lib.hid (rplus_ok c (k / 16) ((k : Int) / 16) (by omega) (by omega) hc.out hcb.out)
   have cb1 := fun wz hb2 hR => Lib.hid (rblock_any W (putB 16 (numB c + k / 16)) g (putB_len _ _) hb2 hW.out wz hR)
   generalize hBk : blockN W (putB 16 (numB c + k / 16)) = Bk at *
   have hBkl : Hid (Bk.length = 16) := hBl
   have hBkb : Hid (Byt Bk) := hBb
   replace hBk := Lib.hid hBk
   go_upto_if 21 with (fail)
   go_cut [] (fun wc => Hid (AvB wc p 22 Bk) ∧ Hid (Still [p] w3 wc) ∧ Hid (OB wc w3.heap.size 5 (.slice s k cp) k (cipN W (numB c) (b.take k))))
   case first =>
    by_cases h16 : k % 16 = 0
    ·have d : ((k : Int) % 16 == 0) = true := by rw [beq_iff_eq]; omega
     go_wp2_with (refine ldA ar16 rfl rfl rfl ((sC wr).out T.out) hc.out ?_)
     refine Calls.mono (cp1.out wr) ?_
     rintro e w5 ⟨rfl, hb5⟩
     have T5 := Lib.hid (T.out.bw' hb5)
     have N5 := Lib.hid (N.out.bw hb5)
     have O5 := Lib.hid (O.out.bw hb5)
     clear hb5
     dsimp only
     go_wp2_with fail
     refine Calls.mono (cb1 w5 (putB_byt' _ _) ((sR w5).out T5.out)).out ?_
     rintro e w6 ⟨rfl, hb6⟩
     have T6 := Lib.hid (T5.out.bw' hb6)
     have N6 := Lib.hid (N5.out.bw hb6)
     have O6 := Lib.hid (O5.out.bw hb6)
     clear hb6 T5 N5 O5
     dsimp only
     have T7 := Lib.hid (T6.out.trans (Still.row (w := w6) (g := p) (ivA .u8 Bk)))
     have N7 := Lib.hid (N6.out.row Bk)
     have O7 := Lib.hid (O6.out.still (Still.row (w := w6) (g := p) (ivA .u8 Bk)) (fun g hg => by have := O6.out.ge' g hg; simp; omega))
     go_wp2_with (refine stR ar16 rfl rfl rfl rfl N6.out Nn.out hBkl.out ?_)
     go_meet
     exact ⟨N7, T7, O7⟩
    ·have d : ((k : Int) % 16 == 0) = false := by rw [beq_eq_false_iff_ne]; omega
     have e := Ne.out h16
     rw [e] at N
     replace e := Lib.hid e
     go_wp2_with fail
     go_meet
     exact ⟨N, T, O⟩
   case rest =>
    clear N T O Ne Nn cb1 cp1 hBb hBl
    obtain ⟨N, T, O⟩ := hcut
    obtain ⟨gb, o, cap, he, _, _, _, hcell⟩ := (hv.out.bw ((sV wc).out T.out)).form (by omega)
    cases he
    have c1 := hcell k hkn
    have c2 := N.out.cell (k % 16) (by rw [hBkl.out]; omega)
    have hy1 := hbb.out k
    have hy2 := hBkb.out (k % 16)
    generalize b.getD k 0 = y1 at *
    generalize Bk.getD (k % 16) 0 = y2 at *
    have hX := u8_xor_nat y1 y2 hy1 hy2
    have hy : y1 ^^^ y2 < 256 := Nat.xor_lt_two_pow (n := 8) hy1 hy2
    generalize y1 ^^^ y2 = y at *
    obtain ⟨j, ej, hj⟩ : ∃ j : Nat, (k : Int) % 16 = (j : Int) ∧ k % 16 = j := ⟨k % 16, by omega, rfl⟩
    have hj16 : j < 16 := by omega
    rw [hj] at c2
    replace hj := Lib.hid hj
    have l1 : ∀ x : LaterS [] wc, x.now.cell? ⟨gb, o + k, none⟩ = some (.int .u8 (y1 : Nat)) := fun x => x.cell c1 (by simp)
    have l2 : ∀ x : LaterS [] wc, x.now.cell? ⟨p, j, none⟩ = some (.int .u8 (y2 : Nat)) := fun x => x.cell c2 (by simp)
    have q1 : (0 : Int) ≤ (k : Int) := by omega
    have q2 : (k : Int) < (n : Int) := by omega
    have q4 : (0 : Int) ≤ (j : Int) := by omega
    have q5 : (j : Int) < 16 := by omega
    have hwc := T.out.size
    clear c1 c2 hcell
    go_wp2_with fail
    refine wp_region_gg [] [] [11] (by kernel_rfl) ?_
    refine hoist [] [] (a1 := ?_) 0 rfl (by kernel_rfl) (.inl ⟨rfl, rfl⟩) rfl rfl rfl (fun x K hK => ?_) ?_
    rotate_left
    ·go_big_quiet_op
     exact hK
    refine hoist [] [] (a1 := ?_) 1 rfl (by kernel_rfl) (.inl ⟨rfl, rfl⟩) rfl rfl rfl (fun x K hK => ?_) ?_
    rotate_left
    ·go_big_quiet_op
     exact hK
    refine hoist [] [] (a1 := ?_) 2 rfl (by kernel_rfl) (.inl ⟨rfl, rfl⟩) rfl rfl rfl (fun x K hK => ?_) ?_
    rotate_left
    ·go_big_quiet_op
     exact hK
    refine hoist [] [] (a1 := ?_) 3 rfl (by kernel_rfl) (.inl ⟨rfl, rfl⟩) rfl rfl rfl (fun x K hK => ?_) ?_
    rotate_left
    ·go_big_quiet_op
     exact hK
    refine hoist [] [] (a1 := ?_) 4 rfl (by kernel_rfl) (.inl ⟨rfl, rfl⟩) rfl rfl rfl (fun x K hK => ?_) ?_
    rotate_left
    ·go_big_quiet_op
     exact hK
    refine hoist [] [] (a1 := ?_) 5 rfl (by kernel_rfl) (.inl ⟨rfl, rfl⟩) rfl rfl rfl (fun x K hK => ?_) ?_
    rotate_left
    ·go_big_quiet_op
     exact hK
    refine hoist [] [] (a1 := ?_) 6 rfl (by kernel_rfl) (.inl ⟨rfl, rfl⟩) rfl rfl rfl (fun x K hK => ?_) ?_
    rotate_left
    ·go_big_quiet_op
     exact hK
    refine hoist [] [] (a1 := ?_) 7 rfl (by kernel_rfl) (.inl ⟨rfl, rfl⟩) rfl rfl rfl (fun x K hK => ?_) ?_
    rotate_left
    ·go_big_quiet_op
     exact hK
    refine hoist [] [] (a1 := ?_) 8 rfl (by kernel_rfl) (.inl ⟨rfl, rfl⟩) rfl rfl rfl (fun x K hK => ?_) ?_
    rotate_left
    ·go_big_quiet_op
     exact hK
    refine hoist [] [] (a1 := ?_) 9 rfl (by kernel_rfl) (.inl ⟨rfl, rfl⟩) rfl rfl rfl (fun x K hK => ?_) ?_
    rotate_left
    ·go_big_quiet_op
     exact hK
    refine effect 10 rfl (by kernel_rfl) (by kernel_rfl) rfl (fun x10 K hK => ?_)
    go_simp
    refine hK _ _ (Still.of_below ((Below.refl _ _).alloc (Nat.le_refl _) _)) ?_
    clear hK K
    try simp only [Act.put, List.setIfInBounds_toArray, List.set_cons_succ, List.set_cons_zero]
    refine tail 11 rfl (by kernel_rfl) rfl (fun xr => ?_)
    simp only [List.drop_succ_cons, List.drop_zero]
    have bb : BW wc xr.now := (x10.bw.alloc).trans xr.bw
    have V10 := (SB.new1 x10.now 5 y hy).bw xr.bw
    have hsz := bb.size
    go_wp2_with (at_builtin; go_must (refine wpList_apOB rfl _ _ rfl w3.heap.size _ _ _ rfl (O.out.bw bb) _ rfl 1 [y] V10 (by omega) (by omega) ?_; intro s2 c2 w6 hc2 hm2 O6 hT hb hG; unfold maxLen at hm2; replace hG := Lib.hid hG; replace hT := Lib.hid hT; rw [e1.out] at O6; replace O6 := Lib.hid O6))
    have T6 := Lib.hid ((T.out.bw' bb).own hT.out (fun g hg => O.out.ge' g (in_toList hg)))
    have N6 := Lib.hid ((N.out.bw bb).still hT.out (fun hm => by have := O.out.ge' p (in_toList hm); omega))
    clear hT hG hb V10 bb
    go_roundg (n - (k + 1))
    case measure => omega
    case rel => exact ⟨k + 1, s2, c2, Bk, rfl, by omega, by go_num, rfl, O6, N6, hBkl, (fun h => by rw [show (k + 1) / 16 = k / 16 by omega]; exact hBk.out.symm), T6⟩
  ·obtain rfl : k = n := by omega
   rw [List.take_of_length_le (by rw [hbl.out]; exact Nat.le_refl _)] at O
   have O2 := O.out.up (base' := w.heap.size) (by have := B3; omega)
   go_wp2_with fail
   go_ret
   exact ⟨_, rfl, O2, (sV wr).out T.out⟩
end Go.Proofs.YtikmhlbpefednaaGreat

namespace Go.Proofs.YtikmhlbpefednaaGreat
open Go.RowKit
theorem Cf.bw {w w' : World} {g : Nat} {W : List Nat} (h : Cf w g W) (hb : BW w w') : Cf w' g W := h.below hb
theorem Cf.stillT {w w' : World} {g : Nat} {W : List Nat} (h : Cf w g W) {p : Nat} {cs : Array Value} {t : TypeId} {fr : Nat × Nat} (hp : w.heap[p]? = some (.cells cs t fr)) (ht : t ≠ 252) (hs : Still [p] w w') : Cf w' g W :=
 ⟨hp_st hs h.1 (by have := hp_ne hp h.1 ht; simpa using this.symm), h.2⟩
def Gen (w : World) (base g5 g3 gx : Nat) (W : List Nat) (x : Nat) : Prop := base ≤ g3 ∧ HpB w g5 (.cells #[.pointer (some ⟨gx, 0, none⟩)] 235) ∧ AvB w g3 22 (putB 16 x) ∧ Cf w gx W
theorem Gen.bw {w w' : World} {base g5 g3 gx : Nat} {W : List Nat} {x : Nat} (h : Gen w base g5 g3 gx W x) (hb : BW w w') : Gen w' base g5 g3 gx W x := ⟨h.1, h.2.1.bw hb, h.2.2.1.bw hb, h.2.2.2.bw hb⟩
set_option maxRecDepth 100000 in
set_option maxHeartbeats 8000000 in
theorem blocks_ok (key : List Nat) (x : Nat) (hk : key.length = 16) (hkb : Byt key) (w : World) :
  Calls Tryz.prog 117 #[.agg (ivA .u8 key), .agg (ivA .u8 (putB 16 x))] w fun e w' => ∃ g5 g3 gx, e = .returned (.func (.func 140) #[] #[.pointer (some ⟨g5, 0, none⟩), .pointer (some ⟨g3, 0, none⟩)]) ∧ Gen w' w.heap.size g5 g3 gx (wordsN key) x ∧ Below w.heap.size w w' := by
 have hmf : ∀ (fn : Fn) (first cap : Array Value) (w : World), (Instr.makeFunc fn first cap).run Tryz.prog w = .ok (.func fn first cap) w := fun _ _ _ _ => rfl
 have cn := fun wz => Lib.hid (aesNew_any key hk hkb wz)
 generalize wordsN key = W at *
 replace hk := Lib.hid hk
 replace hkb := Lib.hid hkb
 have B := Lib.hid (BW.refl w)
 go_enter Tryz.func117, Tryz.ntmps117
 go_upto_region 1 with (fail)
 have K1 := Lib.hid ((AvB.new w 22 key).bw (show BW (w.alloc (.cells (ivA .u8 key) 22)) ((w.alloc (.cells (ivA .u8 key) 22)).alloc (.cells (ivA .u8 (putB 16 x)) 22)) from (by repeat (first | exact BW.refl _ | apply BW.alloc | apply BW.drewN | apply BW.drew))))
 have C1 := Lib.hid ((AvB.new (w.alloc (.cells (ivA .u8 key) 22)) 22 (putB 16 x)).bw (show BW ((w.alloc (.cells (ivA .u8 key) 22)).alloc (.cells (ivA .u8 (putB 16 x)) 22)) ((w.alloc (.cells (ivA .u8 key) 22)).alloc (.cells (ivA .u8 (putB 16 x)) 22)) from (by repeat (first | exact BW.refl _ | apply BW.alloc | apply BW.drewN | apply BW.drew))))
 simp only [World.size_alloc] at C1
 generalize hnm : ((w.alloc (.cells (ivA .u8 key) 22)).alloc (.cells (ivA .u8 (putB 16 x)) 22)) = w1 at *
 have hb : BW w w1 := (by subst hnm; exact (by repeat (first | exact BW.refl _ | apply BW.alloc | apply BW.drewN | apply BW.drew)))
 replace B := Lib.hid (B.out.trans hb)
 clear hb
 clear hnm
 try simp only [World.size_alloc]
 go_wp2_with (refine ldA ar16 rfl rfl rfl K1.out hk.out ?_)
 refine Calls.mono (cn w1).out ?_
 rintro e w2 ⟨g, rfl, hg, R2, hb⟩
 have hb : BW w1 w2 := hb
 replace B := Lib.hid (B.out.trans hb)
 replace K1 := Lib.hid (K1.out.bw hb)
 replace C1 := Lib.hid (C1.out.bw hb)
 clear hb
 replace R2 := Lib.hid R2
 clear K1 cn
 dsimp only
 go_wp2_with fail
 go_ret
 refine ⟨_, _, g, rfl, ⟨by omega, HpB.new w2 _, C1.out.bw (BW.refl _).alloc, R2.out.bw (BW.refl _).alloc⟩, B.out.alloc⟩
set_option maxRecDepth 100000 in
set_option maxHeartbeats 8000000 in
theorem gen_ok (base g5 g3 gx : Nat) (W : List Nat) (x : Nat) (w : World) (hG : Gen w base g5 g3 gx W x) :
  Calls Tryz.prog 140 #[.pointer (some ⟨g5, 0, none⟩), .pointer (some ⟨g3, 0, none⟩)] w fun e w' => e = .returned (.agg (ivA .u8 (blockN W (putB 16 x)))) ∧ Gen w' base g5 g3 gx W (x + 1) ∧ Still [g3] w w' := by
 have cb := fun wz hR => Lib.hid (block_any W (putB 16 x) gx (putB_len _ _) (putB_byt' _ _) wz hR)
 have cn := fun wz => Lib.hid (next_ok (putB 16 x) (putB_len _ _) (putB_byt _ _) wz)
 rw [putB_ctr] at cn
 have hBl := Lib.hid (blockN_len W (putB 16 x))
 have hPl := Lib.hid (putB_len 16 x)
 have hPl2 := Lib.hid (putB_len 16 (x + 1))
 obtain ⟨h1, h2, h3, h4⟩ := hG
 have hlt := h3.lt
 have c5 := hp_cell h2 0
 generalize blockN W (putB 16 x) = Bk at *
 generalize hP2 : putB 16 (x + 1) = P2 at *
 generalize putB 16 x = P1 at *
 replace h2 := Lib.hid h2
 replace h3 := Lib.hid h3
 replace h4 := Lib.hid h4
 replace hP2 := Lib.hid hP2
 have B := Lib.hid (BW.refl w)
 go_enter Tryz.func140, Tryz.ntmps140
 go_upto_region 1 with (refine alA ar16 rfl rfl ?_)
 have hlt5 := HpB.lt h2.out
 have n53 := hp_ne h2.out h3.out (by decide)
 have Z := Lib.hid ((AvB.new w 22 (zeros 16)).bw (show BW (w.alloc (.cells (ivA .u8 (zeros 16)) 22)) (w.alloc (.cells (ivA .u8 (zeros 16)) 22)) from (by repeat (first | exact BW.refl _ | apply BW.alloc | apply BW.drewN | apply BW.drew))))
 generalize hnm : (w.alloc (.cells (ivA .u8 (zeros 16)) 22)) = w1 at *
 have hb : BW w w1 := (by subst hnm; exact (by repeat (first | exact BW.refl _ | apply BW.alloc | apply BW.drewN | apply BW.drew)))
 replace B := Lib.hid (B.out.trans hb)
 replace h2 := Lib.hid (h2.out.bw hb)
 replace h3 := Lib.hid (h3.out.bw hb)
 replace h4 := Lib.hid (h4.out.bw hb)
 clear hb
 clear hnm
 try simp only [World.size_alloc]
 have c5' := B.out.cell c5
 clear c5
 go_wp2_with (refine ldA ar16 rfl rfl rfl h3.out hPl.out ?_)
 refine Calls.mono (cb w1 h4.out).out ?_
 rintro e w2 ⟨rfl, hb⟩
 have hb : BW w1 w2 := hb
 replace B := Lib.hid (B.out.trans hb)
 replace h2 := Lib.hid (h2.out.bw hb)
 replace h3 := Lib.hid (h3.out.bw hb)
 replace h4 := Lib.hid (h4.out.bw hb)
 replace Z := Lib.hid (Z.out.bw hb)
 clear hb
 have hz2 := B.out.size
 clear cb c5'
 dsimp only
 go_upto_region 2 with (first | (refine alA ar16 rfl rfl ?_) | (refine stN ar16 rfl rfl rfl rfl hBl.out ?_))
 have K := Lib.hid ((AvB.new w2 22 Bk).bw (show BW (w2.alloc (.cells (ivA .u8 Bk) 22)) (w2.alloc (.cells (ivA .u8 Bk) 22)) from (by repeat (first | exact BW.refl _ | apply BW.alloc | apply BW.drewN | apply BW.drew))))
 generalize hnm : (w2.alloc (.cells (ivA .u8 Bk) 22)) = w3 at *
 have hb : BW w2 w3 := (by subst hnm; exact (by repeat (first | exact BW.refl _ | apply BW.alloc | apply BW.drewN | apply BW.drew)))
 replace B := Lib.hid (B.out.trans hb)
 replace h2 := Lib.hid (h2.out.bw hb)
 replace h3 := Lib.hid (h3.out.bw hb)
 replace h4 := Lib.hid (h4.out.bw hb)
 replace Z := Lib.hid (Z.out.bw hb)
 clear hb
 clear hnm
 try simp only [World.size_alloc]
 go_wp2_with (refine ldA ar16 rfl rfl rfl h3.out hPl.out ?_)
 refine Calls.mono (cn w3).out ?_
 rintro e w4 ⟨rfl, hb⟩
 have hb : BW w3 w4 := hb
 replace B := Lib.hid (B.out.trans hb)
 replace h2 := Lib.hid (h2.out.bw hb)
 replace h3 := Lib.hid (h3.out.bw hb)
 replace h4 := Lib.hid (h4.out.bw hb)
 replace Z := Lib.hid (Z.out.bw hb)
 replace K := Lib.hid (K.out.bw hb)
 clear hb
 clear cn
 dsimp only
 have lq : w.heap.size ≠ g3 := by omega
 have lK : w2.heap.size ≠ g3 := by omega
 have n5 : g5 ≠ w.heap.size := by omega
 have T5 := Lib.hid ((B.out.still [g3]).trans (Still.row (w := w4) (g := g3) (ivA .u8 P2)))
 have A5 := Lib.hid (h3.out.row P2)
 have Z5 := Lib.hid (Z.out.rowO lq (ivA .u8 P2))
 have K5 := Lib.hid (K.out.rowO lK (ivA .u8 P2))
 have Q5 := Lib.hid ((hp_rowo (w := w4) (ivA .u8 P2) n53).trans h2.out)
 have C5 := Lib.hid (h4.out.stillT h3.out (by decide) (Still.row (w := w4) (g := g3) (ivA .u8 P2)))
 go_upto_region 3 with (refine stR ar16 rfl rfl rfl rfl h3.out hPl.out hPl2.out ?_)
 generalize w4.setRow g3 (ivA .u8 P2) = w5 at *
 have Z6 := Lib.hid (Z5.out.row Bk)
 have T6 := Lib.hid (T5.out.own (Still.row (w := w5) (g := w.heap.size) (ivA .u8 Bk)) (by simp))
 have A6 := Lib.hid (A5.out.rowO (Ne.symm lq) (ivA .u8 Bk))
 have Q6 := Lib.hid ((hp_rowo (w := w5) (ivA .u8 Bk) n5).trans Q5.out)
 have C6 := Lib.hid (C5.out.stillT Z5.out (by decide) (Still.row (w := w5) (g := w.heap.size) (ivA .u8 Bk)))
 try simp only [Act.put, List.setIfInBounds_toArray, List.set_cons_succ, List.set_cons_zero]
 go_wp2_with (first | (refine ldA ar16 rfl rfl rfl K5.out hBl.out ?_) | (refine stR ar16 rfl rfl rfl rfl Z5.out (zeros_len _) hBl.out ?_))
 refine bodyPost_ret (results_cell_row (p := 2) rfl _ _ _ _ _ _ _ rfl Z6.out Tryz.underlying22 rfl (by rw [ar16.hi, ivA_size, hBl.out])) rfl ⟨rfl, ⟨h1, Q6.out, ?_, C6.out⟩, T6.out⟩
 rw [hP2.out]
 exact A6.out
end Go.Proofs.YtikmhlbpefednaaGreat

namespace Go.Proofs.YtikmhlbpefednaaGreat
open Go.RowKit
theorem Gen.stillT {w w' : World} {base g5 g3 gx : Nat} {W : List Nat} {x : Nat} (h : Gen w base g5 g3 gx W x) {v : Value} {n : Nat} {l : List Nat} {b0 : Nat} (hO : OB w b0 5 v n l) (hs : Still v.ownBlock.toList w w') : Gen w' base g5 g3 gx W x :=
 ⟨h.1, hp_st hs h.2.1 (hO.notin h.2.1 (by decide)), h.2.2.1.still hs (hO.notin h.2.2.1 (by decide)), hp_st hs h.2.2.2.1 (hO.notin h.2.2.2.1 (by decide)), h.2.2.2.2⟩
theorem OB.stillG {w w' : World} {base : Nat} {v : Value} {n : Nat} {l : List Nat} (h : OB w base 5 v n l) {g : Nat} {k : List Nat} (hg : AvB w g 22 k) (hs : Still [g] w w') : OB w' base 5 v n l :=
 h.still hs (fun j hj => by have := h.2.2.ne hg (by decide) j hj; simpa using this)
set_option maxRecDepth 100000 in
set_option maxHeartbeats 8000000 in
theorem bytes_ok (key c : List Nat) (a : Int) (h1 : -9223372036854775808 ≤ a) (h2 : a ≤ 9223372036854775807) (hk : key.length = 16) (hkb : Byt key) (hc : c.length = 16) (hcb : ByL c) (w : World) :
  Calls Tryz.prog 92 #[.agg (ivA .u8 key), .agg (ivA .u8 c), .int .i64 a] w fun e w' => ∃ v, e = .returned v ∧ OB w' w.heap.size 5 v (min a.toNat 4096) (strm (wordsN key) (numB c) (min a.toNat 4096)) ∧ Below w.heap.size w w' := by
 have hcc := putB_numB c hcb
 rw [hc] at hcc
 have cb := fun wz => Lib.hid (blocks_ok key (numB c) hk hkb wz)
 rw [hcc] at cb
 generalize wordsN key = W at *
 obtain ⟨N, hN, hN1⟩ : ∃ N, min a.toNat 4096 = N ∧ N ≤ 4096 := ⟨_, rfl, by omega⟩
 rw [hN]
 generalize numB c = x at *
 replace hk := Lib.hid hk
 replace hkb := Lib.hid hkb
 replace hc := Lib.hid hc
 replace hcb := Lib.hid hcb
 replace hcc := Lib.hid hcc
 have B := Lib.hid (BW.refl w)
 go_enter Tryz.func92, Tryz.ntmps92
 go_upto_region 1 with (fail)
 have K1 := Lib.hid ((AvB.new w 22 key).bw (show BW (w.alloc (.cells (ivA .u8 key) 22)) ((w.alloc (.cells (ivA .u8 key) 22)).alloc (.cells (ivA .u8 c) 22)) from (by repeat (first | exact BW.refl _ | apply BW.alloc | apply BW.drewN | apply BW.drew))))
 have C1 := Lib.hid ((AvB.new (w.alloc (.cells (ivA .u8 key) 22)) 22 c).bw (show BW ((w.alloc (.cells (ivA .u8 key) 22)).alloc (.cells (ivA .u8 c) 22)) ((w.alloc (.cells (ivA .u8 key) 22)).alloc (.cells (ivA .u8 c) 22)) from (by repeat (first | exact BW.refl _ | apply BW.alloc | apply BW.drewN | apply BW.drew))))
 simp only [World.size_alloc] at C1
 generalize hnm : ((w.alloc (.cells (ivA .u8 key) 22)).alloc (.cells (ivA .u8 c) 22)) = w1 at *
 have hb : BW w w1 := (by subst hnm; exact (by repeat (first | exact BW.refl _ | apply BW.alloc | apply BW.drewN | apply BW.drew)))
 replace B := Lib.hid (B.out.trans hb)
 clear hb
 clear hnm
 try simp only [World.size_alloc]
 go_upto_region 1 with (fail)
 go_cut [2] (fun v wc => v = .int .i64 (N : Nat) ∧ w1 = wc)
 case first =>
  by_cases q1 : a < 0
  ·go_wp2_with fail
   go_meet
   exact ⟨by rw [show (N : Int) = 0 by omega], rfl⟩
  ·by_cases q2 : 4096 < a
   ·go_wp2_with fail
    go_meet
    exact ⟨by rw [show (N : Int) = 4096 by omega], rfl⟩
   ·go_wp2_with fail
    go_meet
    exact ⟨by rw [show (N : Int) = a by omega], rfl⟩
 case rest =>
  obtain ⟨rfl, rfl⟩ := hcut
  go_wp2_with (first | (refine ldA ar16 rfl rfl rfl K1.out hk.out ?_) | (refine ldA ar16 rfl rfl rfl C1.out hc.out ?_))
  refine Calls.mono (cb w1).out ?_
  rintro e w2 ⟨g5, g3, gx, rfl, G, hb⟩
  replace G := Lib.hid (show Gen w2 w.heap.size g5 g3 gx W x from ⟨by have := B.out.size; have := G.1; omega, G.2⟩)
  have hb : BW w1 w2 := hb
  replace B := Lib.hid (B.out.trans hb)
  replace K1 := Lib.hid (K1.out.bw hb)
  replace C1 := Lib.hid (C1.out.bw hb)
  clear hb
  clear cb K1 C1
  dsimp only
  go_wp2_with fail
  go_loopg [7] ((N + 15) / 16) (fun m' vo wx => ∃ (q : Nat) (s : Option Addr) (cp : Nat), m' = (N + 15) / 16 - q ∧ 16 * q < N + 16 ∧ vo = .slice s (16 * q) cp ∧ 16 * q ≤ cp ∧ cp ≤ 9223372036854775807 ∧ Hid (OB wx w.heap.size 5 vo (16 * q) (strm W x (16 * q))) ∧ Hid (Gen wx w.heap.size g5 g3 gx W (x + q)) ∧ Hid (BW w wx))
  case atStart => exact ⟨0, none, 0, by omega, by omega, rfl, by omega, by omega, OB.nil _ _ _, G, B⟩
  case round =>
   clear G B
   obtain ⟨q, s, cp, rfl, hq, rfl, hcp1, hcp2, O, G, B⟩ := hrel
   have hbl := Lib.hid (strm_block W x q)
   have hBl := Lib.hid (blockN_len W (putB 16 (x + q)))
   have hBb := Lib.hid (byl_of (blockN_byt G.out.2.2.2.2.2 (putB_byt' 16 (x + q))))
   have gk := Lib.hid (gen_ok w.heap.size g5 g3 gx W (x + q) wr G.out)
   by_cases hqn : 16 * q < N
   ·obtain ⟨L, hL⟩ : ∃ L, 16 * q = L := ⟨_, rfl⟩
    have hL1 : 16 * (q + 1) = L + 16 := by omega
    rw [hL1] at hbl
    rw [hL] at O hqn hq hbl ⊢
    have d : (L : Int) < N := by omega
    generalize blockN W (putB 16 (x + q)) = Bk at *
    go_wp2_with fail
    refine Calls.mono gk.out ?_
    rintro e w5 ⟨rfl, G5, T5⟩
    have O5 := Lib.hid (O.out.stillG G.out.2.2.1 T5)
    have B5 := Lib.hid (B.out.step (T5.below (B := w.heap.size) B.out.size (by simpa using G.out.1)) (Nat.le_refl _))
    replace G5 := Lib.hid G5
    clear G B O T5 gk
    dsimp only
    go_upto_region 6 with (first | (refine alA ar16 rfl rfl ?_) | (refine stN ar16 rfl rfl rfl rfl hBl.out ?_))
    have K6 := Lib.hid ((AvB.new w5 22 Bk).bw (show BW (w5.alloc (.cells (ivA .u8 Bk) 22)) (w5.alloc (.cells (ivA .u8 Bk) 22)) from (by repeat (first | exact BW.refl _ | apply BW.alloc | apply BW.drewN | apply BW.drew))))
    generalize hnm : (w5.alloc (.cells (ivA .u8 Bk) 22)) = w6 at *
    have hb : BW w5 w6 := (by subst hnm; exact (by repeat (first | exact BW.refl _ | apply BW.alloc | apply BW.drewN | apply BW.drew)))
    replace B5 := Lib.hid (B5.out.trans hb)
    replace O5 := Lib.hid (O5.out.bw hb)
    replace G5 := Lib.hid (G5.out.bw hb)
    clear hb
    clear hnm
    try simp only [World.size_alloc]
    try simp only [Act.put, List.setIfInBounds_toArray, List.set_cons_succ, List.set_cons_zero]
    go_wp2_with (at_builtin; go_must (refine wpList_apOB rfl _ _ rfl w.heap.size _ _ _ rfl (O5.out) _ rfl _ _ (K6.out.sb hBb.out 16 hBl.out (by decide)) (by omega) (BW.trans B5.out (by repeat (first | exact BW.refl _ | apply BW.alloc | apply BW.drewN | apply BW.drew))).size ?_; intro s7 c7 w7 hcc7 hmc7 O7 hT hb hG; unfold maxLen at hmc7; replace hG := Lib.hid hG; replace hT := Lib.hid hT; skip))
    replace B5 := Lib.hid (BW.step (BW.trans B5.out (by repeat (first | exact BW.refl _ | apply BW.alloc | apply BW.drewN | apply BW.drew))) hb (Nat.le_refl _))
    replace O7 := Lib.hid O7
    clear hb
    have G7 := Lib.hid (G5.out.stillT O5.out hT.out)
    rw [hbl.out] at O7
    clear hT hG O5 G5 K6
    go_roundg ((N + 15) / 16 - (q + 1))
    case measure => omega
    case rel => exact ⟨q + 1, s7, c7, rfl, by omega, by rw [hL1], by omega, by omega, by rw [hL1]; exact O7, G7, B5⟩
   ·have d : ¬ ((16 * q : Nat) : Int) < N := by omega
    have hr := fun w => run_cut_hm (P := Tryz.prog) Tryz.underlying35 info_u8 s (16 * q) cp N N (N : Int) (N : Int) rfl rfl .i64 .i64 (Nat.le_refl _) (by omega) w
    have O2 := O.out.cut 0 N N (by omega) (by omega) (Nat.le_refl _) (by omega)
    rw [cutA_zero, Nat.sub_zero, List.drop_zero, strm_take W x _ N (by omega)] at O2
    obtain ⟨L, hL⟩ : ∃ L, 16 * q = L := ⟨_, rfl⟩
    rw [hL] at d hr ⊢
    replace O2 := Lib.hid O2
    clear hbl hBl hBb gk
    go_wp2_with fail
    go_ret
    exact ⟨_, rfl, O2.out, B.out⟩
end Go.Proofs.YtikmhlbpefednaaGreat

namespace Go.Proofs.YtikmhlbpefednaaGreat
open Go.RowKit
set_option maxRecDepth 100000 in
set_option maxHeartbeats 8000000 in
theorem cipher_ok (key c b : List Nat) (sb : Option Addr) (n cb : Nat) (hk : key.length = 16) (hkb : Byt key) (hc : c.length = 16) (hcb : ByL c) (hn : n ≤ 4096) (w : World) (hv : SB w (.slice sb n cb) n b) :
  Calls Tryz.prog 70 #[.agg (ivA .u8 key), .agg (ivA .u8 c), .slice sb n cb] w fun e w' => ∃ v, e = .returned v ∧ OB w' w.heap.size 5 v n (cipN (wordsN key) (numB c) b) ∧ Below w.heap.size w w' := by
 have cy := fun wz => Lib.hid (bytes_ok key c (n : Int) (by omega) (by omega) hk hkb hc hcb wz)
 have hWb := Lib.hid (wordsN_byt key hkb)
 rw [Int.toNat_natCast, Nat.min_eq_left hn] at cy
 generalize wordsN key = W at *
 generalize numB c = x at *
 have u := hv.unpack
 have u1 := u.1
 have u2 := u.2.1
 have hbl := Lib.hid u.2.2.1
 have hbb := Lib.hid (byt_of u.2.2.2)
 have hz := Lib.hid (mixK_zero W x b)
 have ha := Lib.hid (mixK_all W x b)
 rw [u.2.2.1] at hz ha
 clear u
 replace hk := Lib.hid hk
 replace hkb := Lib.hid hkb
 replace hc := Lib.hid hc
 replace hcb := Lib.hid hcb
 replace hv := Lib.hid hv
 have B := Lib.hid (BW.refl w)
 go_enter Tryz.func70, Tryz.ntmps70
 go_upto_region 1 with (fail)
 have K1 := Lib.hid ((AvB.new w 22 key).bw (show BW (w.alloc (.cells (ivA .u8 key) 22)) ((w.alloc (.cells (ivA .u8 key) 22)).alloc (.cells (ivA .u8 c) 22)) from (by repeat (first | exact BW.refl _ | apply BW.alloc | apply BW.drewN | apply BW.drew))))
 have C1 := Lib.hid ((AvB.new (w.alloc (.cells (ivA .u8 key) 22)) 22 c).bw (show BW ((w.alloc (.cells (ivA .u8 key) 22)).alloc (.cells (ivA .u8 c) 22)) ((w.alloc (.cells (ivA .u8 key) 22)).alloc (.cells (ivA .u8 c) 22)) from (by repeat (first | exact BW.refl _ | apply BW.alloc | apply BW.drewN | apply BW.drew))))
 simp only [World.size_alloc] at C1
 generalize hnm : ((w.alloc (.cells (ivA .u8 key) 22)).alloc (.cells (ivA .u8 c) 22)) = w1 at *
 have hb : BW w w1 := (by subst hnm; exact (by repeat (first | exact BW.refl _ | apply BW.alloc | apply BW.drewN | apply BW.drew)))
 replace B := Lib.hid (B.out.trans hb)
 clear hb
 clear hnm
 try simp only [World.size_alloc]
 go_wp2_with (first | (refine ldA ar16 rfl rfl rfl K1.out hk.out ?_) | (refine ldA ar16 rfl rfl rfl C1.out hc.out ?_))
 refine Calls.mono (cy w1).out ?_
 rintro e w2 ⟨v, rfl, O, hb⟩
 obtain ⟨s, cp, rfl, hcp1, hcp2⟩ := O.len
 unfold maxLen at hcp2
 replace O := Lib.hid (O.up (base' := w.heap.size) B.out.size)
 have hb : BW w1 w2 := hb
 replace B := Lib.hid (B.out.trans hb)
 clear hb
 clear cy K1 C1
 rw [← hz.out] at O
 dsimp only
 go_wp2_with fail
 go_loopg [20] n (fun m' i wx => ∃ k : Nat, m' = n - k ∧ k ≤ n ∧ i = .int .i64 (k : Nat) ∧ Hid (OB wx w.heap.size 5 (.slice s n cp) n (mixK W x b k)) ∧ Hid (BW w wx))
 case atStart => exact ⟨0, by omega, by omega, rfl, O, B⟩
 case round =>
  clear O B
  obtain ⟨k, rfl, hk2, rfl, O, B⟩ := hrel
  by_cases hkn : k < n
  ·obtain ⟨gb, ob, cb', he, _, _, _, hcell⟩ := (hv.out.bw B.out).form (by omega)
   cases he
   obtain ⟨g, o, cap, he, hbg, hlt, _, _, hcell2, hfz⟩ := O.out.form (by omega)
   cases he
   have c1 := hcell k hkn
   have c2 := hcell2 k hkn
   rw [mixK_get W x b k (by rw [hbl.out]; exact hkn)] at c2
   have f2 := hfz (o + k)
   have e1 := Lib.hid (mixK_set W x b k (by rw [hbl.out]; exact hkn))
   have hy1 := hbb.out k
   have hy2 := blockN_byt hWb.out (putB_byt' 16 (x + k / 16)) (k % 16)
   generalize b.getD k 0 = y1 at *
   generalize (blockN W (putB 16 (x + k / 16))).getD (k % 16) 0 = y2 at *
   have hX := u8_xor_nat y2 y1 hy2 hy1
   have hy : y2 ^^^ y1 < 256 := Nat.xor_lt_two_pow (n := 8) hy2 hy1
   have O3 := Lib.hid (O.out.set k hkn (y2 ^^^ y1) hy)
   rw [e1.out] at O3
   have B3 := Lib.hid (B.out.set (g := g) (o := o + k) hbg (v := .int .u8 (y2 ^^^ y1 : Nat)))
   clear hcell hcell2 hfz O B
   go_wp2_with fail
   go_roundg (n - (k + 1))
   case measure => omega
   case rel => exact ⟨k + 1, rfl, by omega, by go_num, O3, B3⟩
  ·obtain rfl : k = n := by omega
   rw [ha.out] at O
   go_wp2_with fail
   go_ret
   exact ⟨_, rfl, O.out, B.out⟩
end Go.Proofs.YtikmhlbpefednaaGreat
