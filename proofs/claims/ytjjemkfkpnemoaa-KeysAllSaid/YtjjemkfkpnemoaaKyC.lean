/- keys' fill, all, Rtp, Rtcp. No condition. -/
import Derived.Test.YtjjemkfkpnemoaaKyB
namespace Go.Proofs.Ytjjemkfkpnemoaa
open Go.RowKit

theorem ar30 : ArT 58 30 := ⟨⟨_, Try.underlying58, rfl, rfl⟩, by kernel_rfl, fun w => by kernel_rfl⟩
theorem ar50 : ArT 62 50 := ⟨⟨_, Try.underlying62, rfl, rfl⟩, by kernel_rfl, fun w => by kernel_rfl⟩
theorem drv_len (key salt : List Nat) (lb n : Nat) : (drv key salt lb n).length = n := strm_len _ _ _
/-- A seat's keys from a label on. -/
def keysN (key salt : List Nat) (f : Nat) : List Nat := drv key salt f 16 ++ (drv key salt (f + 1) 20 ++ drv key salt (f + 2) 14)
theorem keysN_len (key salt : List Nat) (f : Nat) : (keysN key salt f).length = 50 := by simp [keysN, drv_len]
theorem spl3 (a b c : List Nat) (ha : a.length = 16) (hb : b.length = 20) (hc : c.length = 14) : splB (splB (splB (zeros 50) 0 a) 16 b) 36 c = a ++ (b ++ c) := by
  have e1 : splB (zeros 50) 0 a = a ++ zeros 34 := by unfold splB; rw [ha]; rfl
  have e2 : splB (a ++ zeros 34) 16 b = a ++ (b ++ zeros 14) := by
    unfold splB
    rw [hb, ← ha, List.take_left', List.drop_append]
    · simp [ha, zeros]
    · rfl
  have e3 : splB (a ++ (b ++ zeros 14)) 36 c = a ++ (b ++ c) := by
    unfold splB
    rw [hc, show a ++ (b ++ zeros 14) = (a ++ b) ++ zeros 14 from (List.append_assoc _ _ _).symm, List.take_left' (by simp [ha, hb]), List.drop_of_length_le (by simp [ha, hb, zeros]), List.append_nil, List.append_assoc]
  rw [e1, e2, e3]

set_option maxRecDepth 100000 in
set_option maxHeartbeats 8000000 in
theorem fill_ok (key salt cur : List Nat) (lb f N pm pf g off : Nat) (hN : N ≤ 4096) (hlf : f + lb < 256) (hk : key.length = 16) (hkb : ByL key) (hs : salt.length = 14) (hsb : ByL salt) (hfit : off + N ≤ cur.length) (w : World) (H : AvB w g 62 cur) (M : AvB w pm 58 (key ++ salt)) (F : HpB w pf (.cells #[.int .u8 (f : Nat)] 5)) :
    Calls Try.prog 80 #[.int .u8 (lb : Nat), .slice (some ⟨g, off, none⟩) N N, .pointer (some ⟨pm, 0, none⟩), .pointer (some ⟨pf, 0, none⟩)] w fun e w' => e = .returned (.tuple #[]) ∧ AvB w' g 62 (splB cur off (drv key salt (f + lb) N)) ∧ Still [g] w w' := by
  have cd := fun wz => Lib.hid (derive_ok key salt (f + lb) (N : Int) (by omega) (by omega) hlf hk hkb hs hsb wz)
  rw [Int.toNat_natCast, Nat.min_eq_left hN] at cd
  have hKl : Hid ((key ++ salt).length = 30) := by simp [Hid, hk, hs]
  have hDl := Lib.hid (drv_len key salt (f + lb) N)
  generalize drv key salt (f + lb) N = D at *
  generalize key ++ salt = K at *
  have cf := hp_cell F 0
  have q1 : (f : Int) + (lb : Int) ≤ 255 := by omega
  have q2 : ((f + lb : Nat) : Int) = (f : Int) + (lb : Int) := by omega
  rw [q2] at cd
  replace hk := Lib.hid hk
  replace hkb := Lib.hid hkb
  replace hs := Lib.hid hs
  replace hsb := Lib.hid hsb
  replace H := Lib.hid H
  replace M := Lib.hid M
  replace F := Lib.hid F
  replace q2 := Lib.hid q2
  have B := Lib.hid (BW.refl w)
  go_enter Try.func80, Try.ntmps80
  go_wp2_with (refine ldA ar30 rfl rfl (by rfl) M.out hKl.out ?_)
  refine Calls.mono (cd w).out ?_
  rintro e w1 ⟨v, rfl, O, hb⟩
  obtain ⟨s1, c1, rfl, _, _⟩ := O.len
  have hb : BW w w1 := hb
  replace B := Lib.hid (B.out.trans hb)
  replace H := Lib.hid (H.out.bw hb)
  clear hb
  dsimp only
  go_wp2_with (refine wp_copyB rfl (.tmp 6) (.tmp 13) rfl (by rfl) H.out (by rfl) O.sb (by rw [Nat.min_self]; exact hfit) ?_; intro w3 A3 T3 z3; replace z3 := Lib.hid z3; rw [Nat.min_self, List.take_of_length_le (by rw [hDl.out]; exact Nat.le_refl _)] at A3; replace A3 := Lib.hid A3)
  go_end0
  exact ⟨rfl, A3.out, (B.out.still _).trans T3⟩

set_option maxRecDepth 100000 in
set_option maxHeartbeats 8000000 in
theorem kall_ok (key salt : List Nat) (f : Nat) (hf : f ≤ 200) (hk : key.length = 16) (hkb : ByL key) (hs : salt.length = 14) (hsb : ByL salt) (w : World) :
    Calls Try.prog 68 #[.agg (ivA .u8 (key ++ salt)), .int .u8 (f : Nat)] w fun e w' => e = .returned (.agg (ivA .u8 (keysN key salt f))) ∧ Below w.heap.size w w' := by
  have hmf : ∀ (fn : Fn) (first cap : Array Value) (w : World), (Instr.makeFunc fn first cap).run Try.prog w = .ok (.func fn first cap) w := fun _ _ _ _ => rfl
  have hR : Hid (splB (splB (splB (zeros 50) 0 (drv key salt (f + 0) 16)) 16 (drv key salt (f + 1) 20)) 36 (drv key salt (f + 2) 14) = keysN key salt f) := spl3 _ _ _ (drv_len _ _ _ _) (drv_len _ _ _ _) (drv_len _ _ _ _)
  have hl := Lib.hid (keysN_len key salt f)
  have d1 := Lib.hid (drv_len key salt (f + 0) 16)
  have d2 := Lib.hid (drv_len key salt (f + 1) 20)
  have cf := fun cur lb N pm pf g off hN hlf hfit wz H M F => Lib.hid (fill_ok key salt cur lb f N pm pf g off hN hlf hk hkb hs hsb hfit wz H M F)
  have hKl : Hid ((key ++ salt).length = 30) := by simp [Hid, hk, hs]
  generalize keysN key salt f = R at *
  generalize key ++ salt = K at *
  replace hk := Lib.hid hk
  replace hkb := Lib.hid hkb
  replace hs := Lib.hid hs
  replace hsb := Lib.hid hsb
  replace cf := Lib.hid cf
  have B := Lib.hid (BW.refl w)
  go_enter Try.func68, Try.ntmps68
  go_upto_region 2 with (refine alA ar50 rfl rfl ?_)
  have M0 := Lib.hid ((AvB.new w 58 K).bw (show BW _ (((w.alloc (.cells (ivA .u8 K) 58)).alloc (.cells #[.int .u8 (f : Nat)] 5)).alloc (.cells (ivA .u8 (zeros 50)) 62)) from (by repeat (first | exact BW.refl _ | apply BW.alloc | apply BW.drewN | apply BW.drew))))
  have F0 := Lib.hid ((HpB.new (w.alloc (.cells (ivA .u8 K) 58)) (.cells #[.int .u8 (f : Nat)] 5)).bw ((BW.refl _).alloc (o := .cells (ivA .u8 (zeros 50)) 62)))
  have R0 := Lib.hid (AvB.new ((w.alloc (.cells (ivA .u8 K) 58)).alloc (.cells #[.int .u8 (f : Nat)] 5)) 62 (zeros 50))
  simp only [World.size_alloc] at F0 R0
  generalize hnm : ((w.alloc (.cells (ivA .u8 K) 58)).alloc (.cells #[.int .u8 (f : Nat)] 5)).alloc (.cells (ivA .u8 (zeros 50)) 62) = w1 at *
  have hb : BW w w1 := (by subst hnm; exact (by repeat (first | exact BW.refl _ | apply BW.alloc | apply BW.drewN | apply BW.drew)))
  replace B := Lib.hid (B.out.trans hb)
  clear hb
  clear hnm
  have hp := R0.out.lt
  have C0 := Lib.hid ((AvB.new w1 62 (zeros 50)).bw (show BW (w1.alloc (.cells (ivA .u8 (zeros 50)) 62)) (w1.alloc (.cells (ivA .u8 (zeros 50)) 62)) from (by repeat (first | exact BW.refl _ | apply BW.alloc | apply BW.drewN | apply BW.drew))))
  generalize hnm : (w1.alloc (.cells (ivA .u8 (zeros 50)) 62)) = w2 at *
  have hb : BW w1 w2 := (by subst hnm; exact (by repeat (first | exact BW.refl _ | apply BW.alloc | apply BW.drewN | apply BW.drew)))
  replace B := Lib.hid (B.out.trans hb)
  replace M0 := Lib.hid (M0.out.bw hb)
  replace F0 := Lib.hid (F0.out.bw hb)
  replace R0 := Lib.hid (R0.out.bw hb)
  clear hb
  clear hnm
  try simp only [World.size_alloc]
  try simp only [Act.put, List.setIfInBounds_toArray, List.set_cons_succ, List.set_cons_zero]
  have lR := R0.out.lt
  have lM := M0.out.lt
  have lF := F0.out.lt
  have hz := B.out.size
  generalize w1.heap.size = p at *
  go_wp2_with fail
  refine Calls.mono (cf.out (zeros 50) 0 16 _ _ p 0 (by decide) (by omega) (by rw [zeros_len]; decide) w2 C0.out M0.out F0.out).out ?_
  rintro e w3 ⟨rfl, C3, T3⟩
  have M3 := Lib.hid (M0.out.still T3 (by simp; omega))
  have F3 : Hid (HpB w3 _ _) := hp_st T3 F0.out (by simp; omega)
  dsimp only
  go_wp2_with fail
  refine Calls.mono (cf.out _ 1 20 _ _ p 16 (by decide) (by omega) (by rw [splB_len _ _ _ (by rw [d1.out, zeros_len]; decide), zeros_len]; decide) w3 C3 M3.out F3.out).out ?_
  rintro e w4 ⟨rfl, C4, T4⟩
  have M4 := Lib.hid (M3.out.still T4 (by simp; omega))
  have F4 : Hid (HpB w4 _ _) := hp_st T4 F3.out (by simp; omega)
  dsimp only
  go_wp2_with fail
  refine Calls.mono (cf.out _ 2 14 _ _ p 36 (by decide) (by omega) (by rw [splB_len _ _ _ (by rw [d2.out, splB_len _ _ _ (by rw [d1.out, zeros_len]; decide), zeros_len]; decide), splB_len _ _ _ (by rw [d1.out, zeros_len]; decide), zeros_len]; decide) w4 C4 M4.out F4.out).out ?_
  rintro e w5 ⟨rfl, C5, T5⟩
  rw [hR.out] at C5
  have T := Lib.hid ((T3.trans T4).trans T5)
  have R5 := Lib.hid (R0.out.still T.out (by simp; omega))
  have B5 := Lib.hid (B.out.step (T.out.below (B := w.heap.size) B.out.size (by simp; omega)) (Nat.le_refl _))
  have H6 := Lib.hid (R5.out.row R)
  replace C5 := Lib.hid C5
  clear T3 T4 T5 T C3 C4
  dsimp only
  go_wp2_with (first | (refine ldA ar50 rfl rfl rfl C5.out hl.out ?_) | (refine stR ar50 rfl rfl rfl rfl R5.out (zeros_len _) hl.out ?_))
  exact bodyPost_ret (results_cell_row (p := 4) rfl _ _ _ _ _ _ _ rfl H6.out Try.underlying62 rfl (by rw [ar50.hi, ivA_size, hl.out])) rfl ⟨rfl, B5.out.row (by omega) _⟩
end Go.Proofs.Ytjjemkfkpnemoaa
