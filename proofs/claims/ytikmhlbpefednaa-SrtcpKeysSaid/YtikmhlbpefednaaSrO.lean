/- The reference's tags of packets, and its way. No condition but the sizes'. -/
import Derived.Test.YtikmhlbpefednaaGS2
import Derived.Test.YtikmhlbpefednaaKyE
import Derived.Test.YtikmhlbpefednaaMcE
namespace Go.Proofs.Ytikmhlbpefednaa
open Go.RowKit

theorem AvB.mid {w : World} {g : Nat} {T : TypeId} {l : List Nat} (h : AvB w g T l) (hb : ByL l) (o n : Nat) (hn : o + n ≤ l.length) (hm : n ≤ maxLen) : SB w (.slice (some ⟨g, o, none⟩) n n) n (mid l o n) := by
  have hl := mid_len l o n (by omega)
  refine SB.mk' hl ((hb.drop _).take _) (Nat.le_refl _) hm h.lt fun j hj => ?_
  have e : (Go.Proofs.Ytikmhlbpefednaa.mid l o n).getD j 0 = l.getD (o + j) 0 := by
    unfold Go.Proofs.Ytikmhlbpefednaa.mid
    rw [List.getD_eq_getElem?_getD, List.getD_eq_getElem?_getD, List.getElem?_take_of_lt (by omega), List.getElem?_drop]
  rw [h.cell (o + j) (by omega), e]
set_option maxRecDepth 100000 in
set_option maxHeartbeats 8000000 in
theorem rwtag_ok (K : List Nat) (hK : K.length = 50) (hKb : ByL K) (sb : Option Addr) (n cb : Nat) (b : List Nat) (hn : n ≤ 1000000) (w : World) (hv : SB w (.slice sb n cb) n b) :
    Calls Try.prog 14 #[.agg (ivA .u8 K), .slice sb n cb, .int .i64 0] w fun e w' => ∃ s c, e = .returned (.slice s 10 c) ∧ OB w' w.heap.size 5 (.slice s 10 c) 10 (tagN K b 0) ∧ BW w w' := by
  have cP := fun wz (h : BW w wz) => Lib.hid (show Calls Try.prog _ #[.slice sb n cb, .int .i64 4, .int .u64 0] wz _ from rput_ok (.slice sb n cb) n b 4 0 4 (by decide) (by decide) rfl (by decide) (by omega) wz (hv.bw h))
  have hT : Hid (tagN K b 0 = (hmacN (mid K 16 20) (b ++ putB 4 0)).take 10) := Lib.hid rfl
  have hlb : (b ++ putB 4 0).length = n + 4 := by rw [List.length_append, putB_len, hv.1]
  generalize b ++ putB 4 0 = m at *
  generalize tagN K b 0 = tg at *
  replace hlb := Lib.hid hlb
  replace hK := Lib.hid hK
  replace hKb := Lib.hid hKb
  clear hv
  have B := Lib.hid (BW.refl w)
  go_enter Try.func14, Try.ntmps14
  go_upto_region 1 with (fail)
  have M0 := Lib.hid ((AvB.new w 52 K).bw (show BW (w.alloc (.cells (ivA .u8 K) 52)) (w.alloc (.cells (ivA .u8 K) 52)) from (by repeat (first | exact BW.refl _ | apply BW.alloc | apply BW.drewN | apply BW.drew))))
  generalize hnm : (w.alloc (.cells (ivA .u8 K) 52)) = w1 at *
  have hb : BW w w1 := (by subst hnm; exact (by repeat (first | exact BW.refl _ | apply BW.alloc | apply BW.drewN | apply BW.drew)))
  replace B := Lib.hid (B.out.trans hb)
  clear hb
  clear hnm
  try simp only [World.size_alloc]
  go_wp2_with fail
  refine Calls.mono (cP w1 B.out).out ?_
  rintro e w2 ⟨v, rfl, O2, hb⟩
  obtain ⟨s2, c2, rfl, h2, _⟩ := O2.len
  have hb : BW w1 w2 := hb
  replace B := Lib.hid (B.out.trans hb)
  replace M0 := Lib.hid (M0.out.bw hb)
  clear hb
  replace O2 := Lib.hid O2
  clear cP
  dsimp only
  go_upto_region 2 with (fail)
  have V := Lib.hid (M0.out.mid hKb.out 16 20 (by rw [hK.out]; decide) (by decide))
  have ct := Lib.hid (rtag_ok _ 20 20 s2 (n + 4) c2 10 (mid K 16 20) m (by decide) (by decide) (by omega) (by omega) w2 V.out O2.out.sb)
  go_wp2_with fail
  refine Calls.mono ct.out ?_
  rintro e w3 ⟨v, rfl, O3, hb⟩
  rw [show (10 : Int).toNat = 10 from rfl, ← hT.out] at O3
  obtain ⟨s3, c3, rfl, _, _⟩ := O3.len
  have h12 := Lib.hid (B.out.size)
  have hb : BW w2 w3 := hb
  replace B := Lib.hid (B.out.trans hb)
  replace M0 := Lib.hid (M0.out.bw hb)
  replace O2 := Lib.hid (O2.out.bw hb)
  clear hb
  replace O3 := Lib.hid (O3.base h12.out)
  dsimp only
  go_wp2_with fail
  go_ret
  exact ⟨s3, c3, rfl, O3.out, B.out⟩
theorem rway_fold (K : List Nat) (hK : K.length = 50) : Array.foldl (fun (cs : Array Value) (x : Value × Nat) => cs.setIfInBounds x.snd x.fst) #[Value.int .u8 0, .int .u8 0, .int .u8 0, .int .u8 0, .int .u8 0, .int .u8 0, .int .u8 0, .int .u8 0, .int .u8 0, .int .u8 0, .int .u8 0, .int .u8 0, .int .u8 0, .int .u8 0, .int .u8 0, .int .u8 0, .int .u8 0, .int .u8 0, .int .u8 0, .int .u8 0, .int .u8 0, .int .u8 0, .int .u8 0, .int .u8 0, .int .u8 0, .int .u8 0, .int .u8 0, .int .u8 0, .int .u8 0, .int .u8 0, .int .u8 0, .int .u8 0, .int .u8 0, .int .u8 0, .int .u8 0, .int .u8 0, .int .u8 0, .int .u8 0, .int .u8 0, .int .u8 0, .int .u8 0, .int .u8 0, .int .u8 0, .int .u8 0, .int .u8 0, .int .u8 0, .int .u8 0, .int .u8 0, .int .u8 0, .int .u8 0, .int .i64 0, .int .i64 0, .slice none 0 0, .slice none 0 0] (ivA .u8 K).zipIdx 0 50 = ivA .u8 K ++ (#[.int .i64 0, .int .i64 0, .slice none 0 0, .slice none 0 0] : Array Value) := by
  have h := foldl_ivA K #[.int .i64 0, .int .i64 0, .slice none 0 0, .slice none 0 0] hK
  have hs : (ivA .u8 K).zipIdx.size = 50 := by rw [Array.size_zipIdx, ivA_size, hK]
  rw [hs] at h
  simp only [Nat.zero_add] at h
  exact h
theorem rway_cells (K : List Nat) (hK : K.length = 50) (x : Value) : (ivA .u8 K ++ (#[.int .i64 0, .int .i64 0, .slice none 0 0, .slice none 0 0] : Array Value)).setIfInBounds 50 x = ivA .u8 K ++ (#[x, .int .i64 0, .slice none 0 0, .slice none 0 0] : Array Value) := by
  apply Array.ext'
  simp only [Array.toList_setIfInBounds, Array.toList_append]
  rw [List.set_append_right _ _ (by rw [Array.length_toList, ivA_size, hK]; omega), Array.length_toList, ivA_size, hK]
  rfl
theorem bvs_iv (K : List Nat) (j : Nat) (v : Value) (h : (bvs K)[j]? = some v) : j < K.length ∧ (ivA .u8 K)[j]? = some v := by
  have e : (ivA .u8 K).toList = bvs K := rfl
  rw [← e, Array.getElem?_toList] at h
  refine ⟨?_, h⟩
  have := (Array.getElem?_eq_some_iff.1 h).1
  rw [ivA_size] at this
  exact this
set_option maxRecDepth 100000 in
set_option maxHeartbeats 8000000 in
theorem rwnew_ok (key salt : List Nat) (lim : Int) (hk : key.length = 16) (hkb : ByL key) (hs : salt.length = 14) (hsb : ByL salt) (w : World) :
    Calls Try.prog 15 #[.agg (ivA .u8 (key ++ salt)), .int .i64 lim] w fun e w' => ∃ g, e = .returned (.pointer (some ⟨g, 0, none⟩)) ∧ w'.rangeAt g 0 (bvs (keysN key salt 0)) ∧ BW w w' := by
  have ck := fun wz => Lib.hid (show Calls Try.prog _ #[.agg (ivA .u8 (key ++ salt)), .int .u8 0] wz _ from rkeys_ok key salt 0 (by decide) hk hkb hs hsb wz)
  have hl := Lib.hid (keysN_len key salt 0)
  have hKl : Hid ((key ++ salt).length = 30) := by simp [Hid, hk, hs]
  generalize keysN key salt 0 = R at *
  generalize key ++ salt = K at *
  replace hk := Lib.hid hk
  replace hkb := Lib.hid hkb
  replace hs := Lib.hid hs
  replace hsb := Lib.hid hsb
  have B := Lib.hid (BW.refl w)
  go_enter Try.func15, Try.ntmps15
  go_upto_region 1 with (fail)
  have M0 := Lib.hid ((AvB.new w 35 K).bw (show BW (w.alloc (.cells (ivA .u8 K) 35)) (w.alloc (.cells (ivA .u8 K) 35)) from (by repeat (first | exact BW.refl _ | apply BW.alloc | apply BW.drewN | apply BW.drew))))
  generalize hnm : (w.alloc (.cells (ivA .u8 K) 35)) = w1 at *
  have hb : BW w w1 := (by subst hnm; exact (by repeat (first | exact BW.refl _ | apply BW.alloc | apply BW.drewN | apply BW.drew)))
  replace B := Lib.hid (B.out.trans hb)
  clear hb
  clear hnm
  try simp only [World.size_alloc]
  go_wp2_with (refine ldA ar30 rfl rfl (by rfl) M0.out hKl.out ?_)
  refine Calls.mono (ck w1).out ?_
  rintro e w2 ⟨rfl, hb⟩
  have hb : BW w1 w2 := hb
  replace B := Lib.hid (B.out.trans hb)
  replace M0 := Lib.hid (M0.out.bw hb)
  clear hb
  clear ck
  dsimp only
  have hsz : (ivA .u8 R).size = 50 := by rw [ivA_size, hl.out]
  obtain ⟨F, hFe⟩ : ∃ F, ivA .u8 R ++ (#[.int .i64 0, .int .i64 0, .slice none 0 0, .slice none 0 0] : Array Value) = F := ⟨_, rfl⟩
  have hfo := (rway_fold R hl.out).trans hFe
  have hFs : F.size = 54 := by rw [← hFe, Array.size_append, hsz]; rfl
  have hX : Hid (F.setIfInBounds 50 (.int .i64 lim) = ivA .u8 R ++ (#[.int .i64 lim, .int .i64 0, .slice none 0 0, .slice none 0 0] : Array Value)) := by
    show _ = _
    rw [← hFe, rway_cells R hl.out]
  replace hFe := Lib.hid hFe
  obtain ⟨X, hXe⟩ : ∃ X, F.setIfInBounds 50 (.int .i64 lim) = X := ⟨_, rfl⟩
  rw [hXe] at hX
  have BN : BW w2 (w2.alloc (.cells X 55)) := (BW.refl _).alloc
  have H4 := Lib.hid (HpB.new w2 (.cells X 55))
  have B4 := Lib.hid (B.out.trans BN)
  replace BN := Lib.hid BN
  go_wp2_with fail
  go_ret
  refine ⟨w2.heap.size, rfl, fun j v hj => ?_, B4.out⟩
  obtain ⟨hj1, hj2⟩ := bvs_iv R j v hj
  have h1 := hp_cell H4.out j
  have h2 : X[j]? = some v := by rw [hX.out, Array.getElem?_append_left (by rw [ivA_size]; exact hj1), hj2]
  rw [Nat.zero_add]
  exact h1.trans h2
end Go.Proofs.Ytikmhlbpefednaa
