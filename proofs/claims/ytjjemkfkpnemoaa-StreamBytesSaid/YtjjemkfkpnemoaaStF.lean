/- stream's blocks, one by one; Bytes, Cipher. No condition but the sizes'. -/
import Derived.Test.YtjjemkfkpnemoaaStE
import Derived.Test.YtjjemkfkpnemoaaAesJ
namespace Go.Proofs.Ytjjemkfkpnemoaa
open Go.RowKit

theorem Cf.bw {w w' : World} {g : Nat} {W : List Nat} (h : Cf w g W) (hb : BW w w') : Cf w' g W := h.below hb
theorem Cf.stillT {w w' : World} {g : Nat} {W : List Nat} (h : Cf w g W) {p : Nat} {cs : Array Value} {t : TypeId} {fr : Nat × Nat} (hp : w.heap[p]? = some (.cells cs t fr)) (ht : t ≠ 82) (hs : Still [p] w w') : Cf w' g W :=
  ⟨hp_st hs h.1 (by have := hp_ne hp h.1 ht; simpa using this.symm), h.2⟩
/-- A stream's generator: it hands back block x next. -/
def Gen (w : World) (base g5 g3 gx : Nat) (W : List Nat) (x : Nat) : Prop := base ≤ g3 ∧ HpB w g5 (.cells #[.pointer (some ⟨gx, 0, none⟩)] 29) ∧ AvB w g3 28 (putB 16 x) ∧ Cf w gx W
theorem Gen.bw {w w' : World} {base g5 g3 gx : Nat} {W : List Nat} {x : Nat} (h : Gen w base g5 g3 gx W x) (hb : BW w w') : Gen w' base g5 g3 gx W x := ⟨h.1, h.2.1.bw hb, h.2.2.1.bw hb, h.2.2.2.bw hb⟩

set_option maxRecDepth 100000 in
set_option maxHeartbeats 8000000 in
theorem blocks_ok (key : List Nat) (x : Nat) (hk : key.length = 16) (hkb : Byt key) (w : World) :
    Calls Try.prog 67 #[.agg (ivA .u8 key), .agg (ivA .u8 (putB 16 x))] w fun e w' => ∃ g5 g3 gx, e = .returned (.func (.func 79) #[] #[.pointer (some ⟨g5, 0, none⟩), .pointer (some ⟨g3, 0, none⟩)]) ∧ Gen w' w.heap.size g5 g3 gx (wordsN key) x ∧ Below w.heap.size w w' := by
  have hmf : ∀ (fn : Fn) (first cap : Array Value) (w : World), (Instr.makeFunc fn first cap).run Try.prog w = .ok (.func fn first cap) w := fun _ _ _ _ => rfl
  have cn := fun wz => Lib.hid (aesNew_any key hk hkb wz)
  generalize wordsN key = W at *
  replace hk := Lib.hid hk
  replace hkb := Lib.hid hkb
  have B := Lib.hid (BW.refl w)
  go_enter Try.func67, Try.ntmps67
  go_upto_region 1 with (fail)
  have K1 := Lib.hid ((AvB.new w 28 key).bw (show BW (w.alloc (.cells (ivA .u8 key) 28)) ((w.alloc (.cells (ivA .u8 key) 28)).alloc (.cells (ivA .u8 (putB 16 x)) 28)) from (by repeat (first | exact BW.refl _ | apply BW.alloc | apply BW.drewN | apply BW.drew))))
  have C1 := Lib.hid ((AvB.new (w.alloc (.cells (ivA .u8 key) 28)) 28 (putB 16 x)).bw (show BW ((w.alloc (.cells (ivA .u8 key) 28)).alloc (.cells (ivA .u8 (putB 16 x)) 28)) ((w.alloc (.cells (ivA .u8 key) 28)).alloc (.cells (ivA .u8 (putB 16 x)) 28)) from (by repeat (first | exact BW.refl _ | apply BW.alloc | apply BW.drewN | apply BW.drew))))
  simp only [World.size_alloc] at C1
  generalize hnm : ((w.alloc (.cells (ivA .u8 key) 28)).alloc (.cells (ivA .u8 (putB 16 x)) 28)) = w1 at *
  have hb : BW w w1 := (by subst hnm; exact (by repeat (first | exact BW.refl _ | apply BW.alloc | apply BW.drewN | apply BW.drew)))
  replace B := Lib.hid (B.out.trans hb)
  clear hb
  clear hnm
  try simp only [World.size_alloc]
  go_wp2_with (refine ldA ar16 rfl rfl rfl K1.out hk.out ?_)
  refine Calls.mono (cn w1).out ?_
  rintro e w2 ⟨g, rfl, hg, R2, hb⟩
  have hb : BW w1 w2 := hb
  replace B := Lib.hid (B.out.trans hb)
  replace K1 := Lib.hid (K1.out.bw hb)
  replace C1 := Lib.hid (C1.out.bw hb)
  clear hb
  replace R2 := Lib.hid R2
  clear K1 cn
  dsimp only
  go_wp2_with fail
  go_ret
  refine ⟨_, _, g, rfl, ⟨by omega, HpB.new w2 _, C1.out.bw (BW.refl _).alloc, R2.out.bw (BW.refl _).alloc⟩, B.out.alloc⟩

set_option maxRecDepth 100000 in
set_option maxHeartbeats 8000000 in
theorem gen_ok (base g5 g3 gx : Nat) (W : List Nat) (x : Nat) (w : World) (hG : Gen w base g5 g3 gx W x) :
    Calls Try.prog 79 #[.pointer (some ⟨g5, 0, none⟩), .pointer (some ⟨g3, 0, none⟩)] w fun e w' => e = .returned (.agg (ivA .u8 (blockN W (putB 16 x)))) ∧ Gen w' base g5 g3 gx W (x + 1) ∧ Still [g3] w w' := by
  have cb := fun wz hR => Lib.hid (block_any W (putB 16 x) gx (putB_len _ _) (putB_byt' _ _) wz hR)
  have cn := fun wz => Lib.hid (next_ok (putB 16 x) (putB_len _ _) (putB_byt _ _) wz)
  rw [putB_ctr] at cn
  have hBl := Lib.hid (blockN_len W (putB 16 x))
  have hPl := Lib.hid (putB_len 16 x)
  have hPl2 := Lib.hid (putB_len 16 (x + 1))
  obtain ⟨h1, h2, h3, h4⟩ := hG
  have hlt := h3.lt
  have c5 := hp_cell h2 0
  generalize blockN W (putB 16 x) = Bk at *
  generalize hP2 : putB 16 (x + 1) = P2 at *
  generalize putB 16 x = P1 at *
  replace h2 := Lib.hid h2
  replace h3 := Lib.hid h3
  replace h4 := Lib.hid h4
  replace hP2 := Lib.hid hP2
  have B := Lib.hid (BW.refl w)
  go_enter Try.func79, Try.ntmps79
  go_upto_region 1 with (refine alA ar16 rfl rfl ?_)
  have hlt5 := HpB.lt h2.out
  have n53 := hp_ne h2.out h3.out (by decide)
  have Z := Lib.hid ((AvB.new w 28 (zeros 16)).bw (show BW (w.alloc (.cells (ivA .u8 (zeros 16)) 28)) (w.alloc (.cells (ivA .u8 (zeros 16)) 28)) from (by repeat (first | exact BW.refl _ | apply BW.alloc | apply BW.drewN | apply BW.drew))))
  generalize hnm : (w.alloc (.cells (ivA .u8 (zeros 16)) 28)) = w1 at *
  have hb : BW w w1 := (by subst hnm; exact (by repeat (first | exact BW.refl _ | apply BW.alloc | apply BW.drewN | apply BW.drew)))
  replace B := Lib.hid (B.out.trans hb)
  replace h2 := Lib.hid (h2.out.bw hb)
  replace h3 := Lib.hid (h3.out.bw hb)
  replace h4 := Lib.hid (h4.out.bw hb)
  clear hb
  clear hnm
  try simp only [World.size_alloc]
  have c5' := B.out.cell c5
  clear c5
  go_wp2_with (refine ldA ar16 rfl rfl rfl h3.out hPl.out ?_)
  refine Calls.mono (cb w1 h4.out).out ?_
  rintro e w2 ⟨rfl, hb⟩
  have hb : BW w1 w2 := hb
  replace B := Lib.hid (B.out.trans hb)
  replace h2 := Lib.hid (h2.out.bw hb)
  replace h3 := Lib.hid (h3.out.bw hb)
  replace h4 := Lib.hid (h4.out.bw hb)
  replace Z := Lib.hid (Z.out.bw hb)
  clear hb
  have hz2 := B.out.size
  clear cb c5'
  dsimp only
  go_upto_region 2 with (first | (refine alA ar16 rfl rfl ?_) | (refine stN ar16 rfl rfl rfl rfl hBl.out ?_))
  have K := Lib.hid ((AvB.new w2 28 Bk).bw (show BW (w2.alloc (.cells (ivA .u8 Bk) 28)) (w2.alloc (.cells (ivA .u8 Bk) 28)) from (by repeat (first | exact BW.refl _ | apply BW.alloc | apply BW.drewN | apply BW.drew))))
  generalize hnm : (w2.alloc (.cells (ivA .u8 Bk) 28)) = w3 at *
  have hb : BW w2 w3 := (by subst hnm; exact (by repeat (first | exact BW.refl _ | apply BW.alloc | apply BW.drewN | apply BW.drew)))
  replace B := Lib.hid (B.out.trans hb)
  replace h2 := Lib.hid (h2.out.bw hb)
  replace h3 := Lib.hid (h3.out.bw hb)
  replace h4 := Lib.hid (h4.out.bw hb)
  replace Z := Lib.hid (Z.out.bw hb)
  clear hb
  clear hnm
  try simp only [World.size_alloc]
  go_wp2_with (refine ldA ar16 rfl rfl rfl h3.out hPl.out ?_)
  refine Calls.mono (cn w3).out ?_
  rintro e w4 ⟨rfl, hb⟩
  have hb : BW w3 w4 := hb
  replace B := Lib.hid (B.out.trans hb)
  replace h2 := Lib.hid (h2.out.bw hb)
  replace h3 := Lib.hid (h3.out.bw hb)
  replace h4 := Lib.hid (h4.out.bw hb)
  replace Z := Lib.hid (Z.out.bw hb)
  replace K := Lib.hid (K.out.bw hb)
  clear hb
  clear cn
  dsimp only
  have lq : w.heap.size ≠ g3 := by omega
  have lK : w2.heap.size ≠ g3 := by omega
  have n5 : g5 ≠ w.heap.size := by omega
  have T5 := Lib.hid ((B.out.still [g3]).trans (Still.row (w := w4) (g := g3) (ivA .u8 P2)))
  have A5 := Lib.hid (h3.out.row P2)
  have Z5 := Lib.hid (Z.out.rowO lq (ivA .u8 P2))
  have K5 := Lib.hid (K.out.rowO lK (ivA .u8 P2))
  have Q5 := Lib.hid ((hp_rowo (w := w4) (ivA .u8 P2) n53).trans h2.out)
  have C5 := Lib.hid (h4.out.stillT h3.out (by decide) (Still.row (w := w4) (g := g3) (ivA .u8 P2)))
  go_upto_region 3 with (refine stR ar16 rfl rfl rfl rfl h3.out hPl.out hPl2.out ?_)
  generalize w4.setRow g3 (ivA .u8 P2) = w5 at *
  have Z6 := Lib.hid (Z5.out.row Bk)
  have T6 := Lib.hid (T5.out.own (Still.row (w := w5) (g := w.heap.size) (ivA .u8 Bk)) (by simp))
  have A6 := Lib.hid (A5.out.rowO (Ne.symm lq) (ivA .u8 Bk))
  have Q6 := Lib.hid ((hp_rowo (w := w5) (ivA .u8 Bk) n5).trans Q5.out)
  have C6 := Lib.hid (C5.out.stillT Z5.out (by decide) (Still.row (w := w5) (g := w.heap.size) (ivA .u8 Bk)))
  try simp only [Act.put, List.setIfInBounds_toArray, List.set_cons_succ, List.set_cons_zero]
  go_wp2_with (first | (refine ldA ar16 rfl rfl rfl K5.out hBl.out ?_) | (refine stR ar16 rfl rfl rfl rfl Z5.out (zeros_len _) hBl.out ?_))
  refine bodyPost_ret (results_cell_row (p := 2) rfl _ _ _ _ _ _ _ rfl Z6.out Try.underlying28 rfl (by rw [ar16.hi, ivA_size, hBl.out])) rfl ⟨rfl, ⟨h1, Q6.out, ?_, C6.out⟩, T6.out⟩
  rw [hP2.out]
  exact A6.out
end Go.Proofs.Ytjjemkfkpnemoaa
