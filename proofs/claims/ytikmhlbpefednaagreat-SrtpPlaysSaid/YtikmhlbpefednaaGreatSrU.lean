/- The reference's tags of packets by any index; bytes ciphered, with their tag. No condition but the sizes'. -/
import Derived.Test.YtikmhlbpefednaaGreatSrO
import Derived.Test.YtikmhlbpefednaaGreatGTb
import Derived.Test.YtikmhlbpefednaaGreatStDf
import Derived.Test.YtikmhlbpefednaaGreatGS1
namespace Go.Proofs.YtikmhlbpefednaaGreat
open Go.RowKit
set_option maxRecDepth 100000 in
set_option maxHeartbeats 8000000 in
theorem rwtagI_ok (K : List Nat) (hKk : K.length = 50) (hKb : ByL K) (sb : Option Addr) (n cb : Nat) (b : List Nat) (i : Nat) (hi : i ≤ 281474976710656) (hn : n ≤ 1000000) (w : World) (hv : SB w (.slice sb n cb) n b) :
  Calls Tryz.prog 47 #[.agg (ivA .u8 K), .slice sb n cb, .int .i64 (i : Nat)] w fun e w' => ∃ s c, e = .returned (.slice s 10 c) ∧ OB w' w.heap.size 5 (.slice s 10 c) 10 (tagN K b i) ∧ BW w w' := by
 have hE : ((i : Int) / 65536) = ((i / 65536 : Nat) : Int) := by omega
 have cP := fun wz (h : BW w wz) => Lib.hid (show Calls Tryz.prog _ #[.slice sb n cb, .int .i64 4, .int .u64 ((i : Int) / 65536)] wz _ by rw [hE]; exact rput_ok (.slice sb n cb) n b 4 (i / 65536) 4 (by decide) (by decide) rfl (by omega) (by omega) wz (hv.bw h))
 have hT : Hid (tagN K b i = (hmacN (mid K 16 20) (b ++ putB 4 (i / 65536))).take 10) := Lib.hid rfl
 have hlb : (b ++ putB 4 (i / 65536)).length = n + 4 := by rw [List.length_append, putB_len, hv.1]
 have hd0 : 0 ≤ (i : Int) / 65536 := by omega
 have hd1 : (i : Int) / 65536 ≤ 4294967296 := by omega
 generalize b ++ putB 4 (i / 65536) = m at *
 generalize tagN K b i = tg at *
 replace hlb := Lib.hid hlb
 replace hKk := Lib.hid hKk
 replace hKb := Lib.hid hKb
 replace hE := Lib.hid hE
 clear hv
 have B := Lib.hid (BW.refl w)
 go_enter Tryz.func47, Tryz.ntmps47
 go_upto_region 1 with (fail)
 have M0 := Lib.hid ((AvB.new w 49 K).bw (show BW (w.alloc (.cells (ivA .u8 K) 49)) (w.alloc (.cells (ivA .u8 K) 49)) from (by repeat (first | exact BW.refl _ | apply BW.alloc | apply BW.drewN | apply BW.drew))))
 generalize hnm : (w.alloc (.cells (ivA .u8 K) 49)) = w1 at *
 have hb : BW w w1 := (by subst hnm; exact (by repeat (first | exact BW.refl _ | apply BW.alloc | apply BW.drewN | apply BW.drew)))
 replace B := Lib.hid (B.out.trans hb)
 clear hb
 clear hnm
 try simp only [World.size_alloc]
 go_wp2_with fail
 refine Calls.mono (cP w1 B.out).out ?_
 rintro e w2 ⟨v, rfl, O2, hb⟩
 obtain ⟨s2, c2, rfl, h2, _⟩ := O2.len
 have hb : BW w1 w2 := hb
 replace B := Lib.hid (B.out.trans hb)
 replace M0 := Lib.hid (M0.out.bw hb)
 clear hb
 replace O2 := Lib.hid O2
 clear cP
 dsimp only
 go_upto_region 2 with (fail)
 have V := Lib.hid (M0.out.mid hKb.out 16 20 (by rw [hKk.out]; decide) (by decide))
 have ct := Lib.hid (rtag_ok _ 20 20 s2 (n + 4) c2 10 (mid K 16 20) m (by decide) (by decide) (by omega) (by omega) w2 V.out O2.out.sb)
 go_wp2_with fail
 refine Calls.mono ct.out ?_
 rintro e w3 ⟨v, rfl, O3, hb⟩
 rw [show (10 : Int).toNat = 10 from rfl, ← hT.out] at O3
 obtain ⟨s3, c3, rfl, _, _⟩ := O3.len
 have h12 := Lib.hid (B.out.size)
 have hb : BW w2 w3 := hb
 replace B := Lib.hid (B.out.trans hb)
 replace M0 := Lib.hid (M0.out.bw hb)
 replace O2 := Lib.hid (O2.out.bw hb)
 clear hb
 replace O3 := Lib.hid (O3.base h12.out)
 dsimp only
 go_wp2_with fail
 go_ret
 exact ⟨s3, c3, rfl, O3.out, B.out⟩
set_option maxRecDepth 100000 in
set_option maxHeartbeats 8000000 in
theorem rsealed_ok (K : List Nat) (hKk : K.length = 50) (hKb : ByL K) (sb : Option Addr) (n cb : Nat) (b : List Nat) (h src i : Nat) (hh : h ≤ n) (hsrc : src < 4294967296) (hi : i ≤ 281474976710656) (hn : n ≤ 4096) (w : World) (hv : SB w (.slice sb n cb) n b) :
  Calls Tryz.prog 37 #[.agg (ivA .u8 K), .slice sb n cb, .int .i64 (h : Nat), .int .u32 (src : Nat), .int .i64 (i : Nat)] w fun e w' => ∃ s c, e = .returned (.slice s (n + 10) c) ∧ OB w' w.heap.size 5 (.slice s (n + 10) c) (n + 10) (spinN K h src i b ++ tagN K (spinN K h src i b) i) ∧ BW w w' := by
 have hsl := mid_len K 36 14 (by omega)
 have hkl := mid_len K 0 16 (by omega)
 have hsb : ByL (mid K 36 14) := (hKb.drop _).take _
 have hkb : ByL (mid K 0 16) := (hKb.drop _).take _
 have hbl := hv.1
 obtain ⟨_, _, he, hc, hm⟩ := hv.len
 cases he
 unfold maxLen at hm
 have cF := fun wz => Lib.hid (rfirst_ok (mid K 36 14) src i hsl hsb hsrc (by omega) wz)
 have hF : Hid (spinN K h src i b = b.take h ++ cipN (wordsN (mid K 0 16)) (numB (firstN (mid K 36 14) src i)) (b.drop h)) := rfl
 have hlen := spinN_len K h src i b (by omega)
 have hfl := firstN_len (mid K 36 14) src i
 have hfb := firstN_byt (mid K 36 14) src i (byt_of hsb)
 have V1 := hv.takeW h hh
 have V2 := hv.dropW h hh
 have cC := fun wz (h : SB wz (.slice (cutA sb h cb 1) (n - h) (cb - h)) (n - h) (b.drop h)) => Lib.hid (rcipher_ok (mid K 0 16) (firstN (mid K 36 14) src i) _ _ _ _ hkl (byt_of hkb) hfl (byl_of hfb) (by omega) wz h)
 rw [hbl] at hlen
 generalize cipN (wordsN (mid K 0 16)) (numB (firstN (mid K 36 14) src i)) (b.drop h) = ci at *
 generalize firstN (mid K 36 14) src i = fi at *
 generalize spinN K h src i b = sp at *
 have cT := fun sb cb wz hv => Lib.hid (rwtagI_ok K hKk hKb sb n cb sp i hi (by omega) wz hv)
 generalize tagN K sp i = tg at *
 have hlo : h ≤ cb := by omega
 replace hsl := Lib.hid hsl
 replace hkl := Lib.hid hkl
 replace hsb := Lib.hid hsb
 replace hkb := Lib.hid hkb
 replace hbl := Lib.hid hbl
 replace hlen := Lib.hid hlen
 replace hfl := Lib.hid hfl
 replace hfb := Lib.hid hfb
 replace V1 := Lib.hid V1
 replace V2 := Lib.hid V2
 replace hKk := Lib.hid hKk
 replace hKb := Lib.hid hKb
 clear hv
 have B := Lib.hid (BW.refl w)
 go_enter Tryz.func37, Tryz.ntmps37
 go_upto_region 1 with (fail)
 have M0 := Lib.hid ((AvB.new w 49 K).bw (show BW (w.alloc (.cells (ivA .u8 K) 49)) (w.alloc (.cells (ivA .u8 K) 49)) from (by repeat (first | exact BW.refl _ | apply BW.alloc | apply BW.drewN | apply BW.drew))))
 generalize hnm : (w.alloc (.cells (ivA .u8 K) 49)) = w1 at *
 have hb : BW w w1 := (by subst hnm; exact (by repeat (first | exact BW.refl _ | apply BW.alloc | apply BW.drewN | apply BW.drew)))
 replace B := Lib.hid (B.out.trans hb)
 clear hb
 clear hnm
 try simp only [World.size_alloc]
 go_upto_region 2 with (at_builtin; go_must (refine wpList_apOB rfl _ _ rfl w.heap.size _ _ _ rfl (OB.new0 w1 w.heap.size B.out.size) _ rfl _ _ (V1.out.bw B.out.alloc) (by omega) (BW.trans B.out (by repeat (first | exact BW.refl _ | apply BW.alloc | apply BW.drewN | apply BW.drew))).size ?_; intro s3 c3 w3 hcc3 hmc3 O3 hT hb hG; unfold maxLen at hmc3; replace hG := Lib.hid hG; replace hT := Lib.hid hT; skip))
 replace B := Lib.hid (BW.step (BW.trans B.out (by repeat (first | exact BW.refl _ | apply BW.alloc | apply BW.drewN | apply BW.drew))) hb (Nat.le_refl _))
 replace O3 := Lib.hid O3
 clear hb
 simp only [Nat.zero_add, List.nil_append] at O3 hcc3
 go_upto_region 2 with (fail)
 have hm0 := M0.out.lt
 replace M0 := Lib.hid ((M0.out.bw ((BW.refl w1).alloc (o := .cells #[] 5))).still hT.out (fun hm => by have hm' : w.heap.size ∈ (Value.slice (some ⟨w1.heap.size, 0, none⟩) 0 0).ownBlock.toList := hm; have e : w.heap.size = w1.heap.size := (by simpa [Value.ownBlock] using hm'); omega))
 clear hT
 refine wp_region_gg [] [] [13] (by kernel_rfl) ?_
 refine hoist [] [] (a1 := ?_) 0 rfl (by kernel_rfl) (.inl ⟨rfl, rfl⟩) rfl rfl rfl (fun x K hK => ?_) ?_
 rotate_left
 ·go_big_quiet_op
  exact hK
 refine hoist [] [] (a1 := ?_) 1 rfl (by kernel_rfl) (.inl ⟨rfl, rfl⟩) rfl rfl rfl (fun x K hK => ?_) ?_
 rotate_left
 ·go_big_quiet_op
  exact hK
 refine hoist [] [] (a1 := ?_) 2 rfl (by kernel_rfl) (.inl ⟨rfl, rfl⟩) rfl rfl rfl (fun x K hK => ?_) ?_
 rotate_left
 ·refine qlM ar16 rfl (by rfl) (by rw [hKk.out]; decide) (fun w' hw => by subst hw; exact M0.out.bw x.bw) (by simp only [Act.put, List.setIfInBounds_toArray, List.set_cons_succ, List.set_cons_zero]; rfl) ?_
  exact hK
 refine hoist [] [] (a1 := ?_) 3 rfl (by kernel_rfl) (.inl ⟨rfl, rfl⟩) rfl rfl rfl (fun x K hK => ?_) ?_
 rotate_left
 ·go_big_quiet_op
  exact hK
 refine hoist [] [] (a1 := ?_) 4 rfl (by kernel_rfl) (.inl ⟨rfl, rfl⟩) rfl rfl rfl (fun x K hK => ?_) ?_
 rotate_left
 ·refine qlM ar14 rfl (by rfl) (by rw [hKk.out]; decide) (fun w' hw => by subst hw; exact M0.out.bw x.bw) (by simp only [Act.put, List.setIfInBounds_toArray, List.set_cons_succ, List.set_cons_zero]; rfl) ?_
  exact hK
 refine hoist [] [] (a1 := ?_) 5 rfl (by kernel_rfl) (.inl ⟨rfl, rfl⟩) rfl rfl rfl (fun x K hK => ?_) ?_
 rotate_left
 ·go_big_quiet_op
  exact hK
 refine hoist [] [] (a1 := ?_) 6 rfl (by kernel_rfl) (.inl ⟨rfl, rfl⟩) rfl rfl rfl (fun x K hK => ?_) ?_
 rotate_left
 ·go_big_quiet_op
  exact hK
 refine hoist [] [] (a1 := ?_) 7 rfl (by kernel_rfl) (.inl ⟨rfl, rfl⟩) rfl rfl rfl (fun x K hK => ?_) ?_
 rotate_left
 ·go_big_quiet_op
  exact hK
 refine hoist [] [] (a1 := ?_) 9 rfl (by kernel_rfl) (.inl ⟨rfl, rfl⟩) rfl rfl rfl (fun x K hK => ?_) ?_
 rotate_left
 ·go_big_quiet_op
  exact hK
 refine hoist [] [] (a1 := ?_) 10 rfl (by kernel_rfl) (.inl ⟨rfl, rfl⟩) rfl rfl rfl (fun x K hK => ?_) ?_
 rotate_left
 ·go_big_quiet_op
  exact hK
 refine hoist [] [] (a1 := ?_) 11 rfl (by kernel_rfl) (.inl ⟨rfl, rfl⟩) rfl rfl rfl (fun x K hK => ?_) ?_
 rotate_left
 ·refine qlCutL rfl (by rfl) (by rfl) rfl hh (by simp only [Act.put, List.setIfInBounds_toArray, List.set_cons_succ, List.set_cons_zero]; rfl) ?_
  exact hK
 refine effect 8 rfl (by kernel_rfl) (by kernel_rfl) rfl (fun x8 K hK => ?_)
 go_simp
 refine Calls.mono (cF x8.now).out ?_
 rintro e w5 ⟨rfl, hb⟩
 refine hK _ _ (Still.of_below hb) ?_
 clear hK K cF
 have hb : BW w3 w5 := (x8.bw.call hb)
 replace B := Lib.hid (B.out.trans hb)
 replace M0 := Lib.hid (M0.out.bw hb)
 replace O3 := Lib.hid (O3.out.bw hb)
 clear hb
 try simp only [Act.put, List.setIfInBounds_toArray, List.set_cons_succ, List.set_cons_zero]
 refine effect 12 rfl (by kernel_rfl) (by kernel_rfl) rfl (fun x12 K hK => ?_)
 go_simp
 refine Calls.mono (cC x12.now (V2.out.bw (B.out.trans x12.bw))).out ?_
 rintro e w6 ⟨v6, rfl, O6, hb⟩
 obtain ⟨s6, c6, rfl, _, _⟩ := O6.len
 refine hK _ _ (Still.of_below hb) ?_
 clear hK K cC
 replace O6 := Lib.hid O6
 have hb : BW w5 w6 := (x12.bw.call hb)
 replace B := Lib.hid (B.out.trans hb)
 replace M0 := Lib.hid (M0.out.bw hb)
 replace O3 := Lib.hid (O3.out.bw hb)
 clear hb
 try simp only [Act.put, List.setIfInBounds_toArray, List.set_cons_succ, List.set_cons_zero]
 refine tail 13 rfl (by kernel_rfl) rfl (fun xr => ?_)
 simp only [List.drop_succ_cons, List.drop_zero]
 have hb : BW w6 xr.now := xr.bw
 replace B := Lib.hid (B.out.trans hb)
 replace M0 := Lib.hid (M0.out.bw hb)
 replace O3 := Lib.hid (O3.out.bw hb)
 replace O6 := Lib.hid (O6.out.bw hb)
 clear hb
 generalize xr.now = w7 at *
 go_upto_region 3 with (at_builtin; go_must (refine wpList_apOB rfl _ _ rfl w.heap.size _ _ _ rfl (O3.out) _ rfl _ _ (O6.out.sb) (by omega) (BW.trans B.out (by repeat (first | exact BW.refl _ | apply BW.alloc | apply BW.drewN | apply BW.drew))).size ?_; intro s8 c8 w8 hcc8 hmc8 O8 hT hb hG; unfold maxLen at hmc8; replace hG := Lib.hid hG; replace hT := Lib.hid hT; skip))
 replace B := Lib.hid (BW.step (BW.trans B.out (by repeat (first | exact BW.refl _ | apply BW.alloc | apply BW.drewN | apply BW.drew))) hb (Nat.le_refl _))
 replace O8 := Lib.hid O8
 clear hb
 rw [← hF.out, show h + (n - h) = n by omega] at O8
 rw [show h + (n - h) = n by omega] at hcc8
 replace M0 := Lib.hid (M0.out.still (show Still (Value.slice s3 h c3).ownBlock.toList w7 w8 from hT.out) (fun hm => O3.out.2.2.ne M0.out (by decide) _ (by simpa using hm) rfl))
 clear hT O3 O6
 have ct := Lib.hid (cT s8 c8 w8 O8.out.sb)
 clear cT
 go_wp2_with (refine ldA ar50 rfl rfl (by rfl) M0.out hKk.out ?_)
 refine Calls.mono ct.out ?_
 rintro e w9 ⟨s9, c9, rfl, O9, hb⟩
 have hb : BW w8 w9 := hb
 replace B := Lib.hid (B.out.trans hb)
 replace M0 := Lib.hid (M0.out.bw hb)
 replace O8 := Lib.hid (O8.out.bw hb)
 clear hb
 replace O9 := Lib.hid O9
 clear ct
 dsimp only
 go_wp2_with (at_builtin; go_must (refine wpList_apOB rfl _ _ rfl w.heap.size _ _ _ rfl (O8.out) _ rfl _ _ (O9.out.sb) (by omega) (BW.trans B.out (by repeat (first | exact BW.refl _ | apply BW.alloc | apply BW.drewN | apply BW.drew))).size ?_; intro s10 c10 w10 hcc10 hmc10 O10 hT hb hG; unfold maxLen at hmc10; replace hG := Lib.hid hG; replace hT := Lib.hid hT; skip))
 replace B := Lib.hid (BW.step (BW.trans B.out (by repeat (first | exact BW.refl _ | apply BW.alloc | apply BW.drewN | apply BW.drew))) hb (Nat.le_refl _))
 replace O10 := Lib.hid O10
 clear hb
 go_ret
 exact ⟨s10, c10, rfl, O10.out, B.out⟩
end Go.Proofs.YtikmhlbpefednaaGreat
