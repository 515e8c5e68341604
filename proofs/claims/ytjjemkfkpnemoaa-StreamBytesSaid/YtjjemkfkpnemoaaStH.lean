/- stream.Cipher. No condition but the sizes'. -/
import Derived.Test.YtjjemkfkpnemoaaStG
namespace Go.Proofs.Ytjjemkfkpnemoaa
open Go.RowKit

set_option maxRecDepth 100000 in
set_option maxHeartbeats 8000000 in
theorem cipher_ok (key c b : List Nat) (sb : Option Addr) (n cb : Nat) (hk : key.length = 16) (hkb : Byt key) (hc : c.length = 16) (hcb : ByL c) (hn : n ≤ 4096) (w : World) (hv : SB w (.slice sb n cb) n b) :
    Calls Try.prog 36 #[.agg (ivA .u8 key), .agg (ivA .u8 c), .slice sb n cb] w fun e w' => ∃ v, e = .returned v ∧ OB w' w.heap.size 5 v n (cipN (wordsN key) (numB c) b) ∧ Below w.heap.size w w' := by
  have cy := fun wz => Lib.hid (bytes_ok key c (n : Int) (by omega) (by omega) hk hkb hc hcb wz)
  have hWb := Lib.hid (wordsN_byt key hkb)
  rw [Int.toNat_natCast, Nat.min_eq_left hn] at cy
  generalize wordsN key = W at *
  generalize numB c = x at *
  have u := hv.unpack
  have u1 := u.1
  have u2 := u.2.1
  have hbl := Lib.hid u.2.2.1
  have hbb := Lib.hid (byt_of u.2.2.2)
  have hz := Lib.hid (mixK_zero W x b)
  have ha := Lib.hid (mixK_all W x b)
  rw [u.2.2.1] at hz ha
  clear u
  replace hk := Lib.hid hk
  replace hkb := Lib.hid hkb
  replace hc := Lib.hid hc
  replace hcb := Lib.hid hcb
  replace hv := Lib.hid hv
  have B := Lib.hid (BW.refl w)
  go_enter Try.func36, Try.ntmps36
  go_upto_region 1 with (fail)
  have K1 := Lib.hid ((AvB.new w 28 key).bw (show BW (w.alloc (.cells (ivA .u8 key) 28)) ((w.alloc (.cells (ivA .u8 key) 28)).alloc (.cells (ivA .u8 c) 28)) from (by repeat (first | exact BW.refl _ | apply BW.alloc | apply BW.drewN | apply BW.drew))))
  have C1 := Lib.hid ((AvB.new (w.alloc (.cells (ivA .u8 key) 28)) 28 c).bw (show BW ((w.alloc (.cells (ivA .u8 key) 28)).alloc (.cells (ivA .u8 c) 28)) ((w.alloc (.cells (ivA .u8 key) 28)).alloc (.cells (ivA .u8 c) 28)) from (by repeat (first | exact BW.refl _ | apply BW.alloc | apply BW.drewN | apply BW.drew))))
  simp only [World.size_alloc] at C1
  generalize hnm : ((w.alloc (.cells (ivA .u8 key) 28)).alloc (.cells (ivA .u8 c) 28)) = w1 at *
  have hb : BW w w1 := (by subst hnm; exact (by repeat (first | exact BW.refl _ | apply BW.alloc | apply BW.drewN | apply BW.drew)))
  replace B := Lib.hid (B.out.trans hb)
  clear hb
  clear hnm
  try simp only [World.size_alloc]
  go_wp2_with (first | (refine ldA ar16 rfl rfl rfl K1.out hk.out ?_) | (refine ldA ar16 rfl rfl rfl C1.out hc.out ?_))
  refine Calls.mono (cy w1).out ?_
  rintro e w2 ⟨v, rfl, O, hb⟩
  obtain ⟨s, cp, rfl, hcp1, hcp2⟩ := O.len
  unfold maxLen at hcp2
  replace O := Lib.hid (O.up (base' := w.heap.size) B.out.size)
  have hb : BW w1 w2 := hb
  replace B := Lib.hid (B.out.trans hb)
  clear hb
  clear cy K1 C1
  rw [← hz.out] at O
  dsimp only
  go_wp2_with fail
  go_loopg [20] n (fun m' i wx => ∃ k : Nat, m' = n - k ∧ k ≤ n ∧ i = .int .i64 (k : Nat) ∧ Hid (OB wx w.heap.size 5 (.slice s n cp) n (mixK W x b k)) ∧ Hid (BW w wx))
  case atStart => exact ⟨0, by omega, by omega, rfl, O, B⟩
  case round =>
    clear O B
    obtain ⟨k, rfl, hk2, rfl, O, B⟩ := hrel
    by_cases hkn : k < n
    · obtain ⟨gb, ob, cb', he, _, _, _, hcell⟩ := (hv.out.bw B.out).form (by omega)
      cases he
      obtain ⟨g, o, cap, he, hbg, hlt, _, _, hcell2, hfz⟩ := O.out.form (by omega)
      cases he
      have c1 := hcell k hkn
      have c2 := hcell2 k hkn
      rw [mixK_get W x b k (by rw [hbl.out]; exact hkn)] at c2
      have f2 := hfz (o + k)
      have e1 := Lib.hid (mixK_set W x b k (by rw [hbl.out]; exact hkn))
      have hy1 := hbb.out k
      have hy2 := blockN_byt hWb.out (putB_byt' 16 (x + k / 16)) (k % 16)
      generalize b.getD k 0 = y1 at *
      generalize (blockN W (putB 16 (x + k / 16))).getD (k % 16) 0 = y2 at *
      have hX := u8_xor_nat y2 y1 hy2 hy1
      have hy : y2 ^^^ y1 < 256 := Nat.xor_lt_two_pow (n := 8) hy2 hy1
      have O3 := Lib.hid (O.out.set k hkn (y2 ^^^ y1) hy)
      rw [e1.out] at O3
      have B3 := Lib.hid (B.out.set (g := g) (o := o + k) hbg (v := .int .u8 (y2 ^^^ y1 : Nat)))
      clear hcell hcell2 hfz O B
      go_wp2_with fail
      go_roundg (n - (k + 1))
      case measure => omega
      case rel => exact ⟨k + 1, rfl, by omega, by go_num, O3, B3⟩
    · obtain rfl : k = n := by omega
      rw [ha.out] at O
      go_wp2_with fail
      go_ret
      exact ⟨_, rfl, O.out, B.out⟩
end Go.Proofs.Ytjjemkfkpnemoaa
