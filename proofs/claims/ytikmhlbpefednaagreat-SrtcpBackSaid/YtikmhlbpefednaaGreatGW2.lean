/- srtcp.Way: what it is in memory; New, Used, Next. No condition but the sizes'. srtcp.Way: a compound's source; what is behind the first bytes, turned; parts with their tag. No condition but the sizes'. srtcp.Way: parts, one behind the other, and their tag. No condition but the sizes'. srtcp.Way: Seal. No condition but the sizes'. srtcp: may a compound be taken in? No condition but the sizes'. -/
import Derived.Test.YtikmhlbpefednaaGreatGS2
import Derived.Test.YtikmhlbpefednaaGreatGS1
import Derived.Test.YtikmhlbpefednaaGreatSrO
namespace Go.Proofs.YtikmhlbpefednaaGreat
open Go.RowKit
def cwayC (K : List Nat) (lim : Int) (used nxt gm : Nat) : Array Value := ivA .u8 K ++ #[.int .i64 lim, .int .i64 (used : Nat), .int .i64 (nxt : Nat), .map (some gm)]
structure CwV (w : World) (g : Nat) (K : List Nat) (lim : Int) (used nxt gm : Nat) (M : List (Nat × Nat × Nat)) : Prop where
 hp : HpB w g (.cells (cwayC K lim used nxt gm) 122)
 len : K.length = 50
 byt : ByL K
 mp : MapIn w gm (winS M)
theorem CwV.bw {w w' : World} {g : Nat} {K : List Nat} {lim : Int} {used nxt gm : Nat} {M : List (Nat × Nat × Nat)} (h : CwV w g K lim used nxt gm M) (hb : BW w w') : CwV w' g K lim used nxt gm M := ⟨h.hp.bw hb, h.len, h.byt, h.mp.still (hb.still []) (by simp)⟩
theorem CwV.still {w w' : World} {g : Nat} {K : List Nat} {lim : Int} {used nxt gm : Nat} {M : List (Nat × Nat × Nat)} (h : CwV w g K lim used nxt gm M) {S : List Nat} (hs : Still S w w') (h1 : g ∉ S) (h2 : gm ∉ S) : CwV w' g K lim used nxt gm M := ⟨h.hp.st hs h1, h.len, h.byt, h.mp.still hs h2⟩
theorem CwV.ne {w : World} {g : Nat} {K : List Nat} {lim : Int} {used nxt gm : Nat} {M : List (Nat × Nat × Nat)} (h : CwV w g K lim used nxt gm M) : g ≠ gm := by
 rintro rfl
 obtain ⟨es, c, hm, _⟩ := h.mp
 have := h.hp
 unfold HpB at this
 rw [hm] at this
 cases this
theorem cwayC_get {K : List Nat} {lim : Int} {used nxt gm : Nat} (hl : K.length = 50) (i : Nat) (hi : i < 50) : (cwayC K lim used nxt gm)[i]? = some (.int .u8 (K.getD i 0 : Nat)) := by
 unfold cwayC
 rw [Array.getElem?_append_left (by rw [ivA_size]; omega)]
 exact ivA_get _ _ _ (by omega)
theorem cwayC_at {K : List Nat} {lim : Int} {used nxt gm : Nat} (hl : K.length = 50) (i : Nat) : (cwayC K lim used nxt gm)[50 + i]? = (#[.int .i64 lim, .int .i64 (used : Nat), .int .i64 (nxt : Nat), .map (some gm)] : Array Value)[i]? := by
 unfold cwayC
 rw [Array.getElem?_append_right (by rw [ivA_size]; omega), ivA_size, hl]
 congr 1
 omega
theorem CwV.lim {w : World} {g : Nat} {K : List Nat} {lim : Int} {used nxt gm : Nat} {M : List (Nat × Nat × Nat)} (h : CwV w g K lim used nxt gm M) : w.cell? ⟨g, 50, none⟩ = some (.int .i64 lim) := (hp_cell h.hp 50).trans (cwayC_at h.len 0)
theorem CwV.used {w : World} {g : Nat} {K : List Nat} {lim : Int} {used nxt gm : Nat} {M : List (Nat × Nat × Nat)} (h : CwV w g K lim used nxt gm M) : w.cell? ⟨g, 51, none⟩ = some (.int .i64 (used : Nat)) := (hp_cell h.hp 51).trans (cwayC_at h.len 1)
theorem CwV.nxt {w : World} {g : Nat} {K : List Nat} {lim : Int} {used nxt gm : Nat} {M : List (Nat × Nat × Nat)} (h : CwV w g K lim used nxt gm M) : w.cell? ⟨g, 52, none⟩ = some (.int .i64 (nxt : Nat)) := (hp_cell h.hp 52).trans (cwayC_at h.len 2)
theorem CwV.map {w : World} {g : Nat} {K : List Nat} {lim : Int} {used nxt gm : Nat} {M : List (Nat × Nat × Nat)} (h : CwV w g K lim used nxt gm M) : w.cell? ⟨g, 53, none⟩ = some (.map (some gm)) := (hp_cell h.hp 53).trans (cwayC_at h.len 3)
theorem CwV.range {w : World} {g : Nat} {K : List Nat} {lim : Int} {used nxt gm : Nat} {M : List (Nat × Nat × Nat)} (h : CwV w g K lim used nxt gm M) (off n : Nat) (hn : off + n ≤ 50) : w.rangeAt g off (bvs (mid K off n)) := fun j v hv => by
 have hl := mid_len K off n (by rw [h.len]; exact hn)
 have hj : j < n := by
  rcases Nat.lt_or_ge j n with h | h
  ·exact h
  ·rw [List.getElem?_eq_none (by rw [bvs_len, hl]; omega)] at hv; cases hv
 rw [(hp_cell h.hp (off + j)).trans (cwayC_get h.len (off + j) (by omega))]
 rw [bvs_get _ _ (by rw [hl]; omega)] at hv
 rw [← hv]
 simp [mid, List.getD_eq_getElem?_getD, List.getElem?_take, hj]
theorem CwV.auth {w : World} {g : Nat} {K : List Nat} {lim : Int} {used nxt gm : Nat} {M : List (Nat × Nat × Nat)} (h : CwV w g K lim used nxt gm M) : SB w (.slice (some ⟨g, 16, none⟩) 20 20) 20 (mid K 16 20) := by
 have hl := mid_len K 16 20 (by rw [h.len]; omega)
 refine SB.mk' hl ((h.byt.drop _).take _) (Nat.le_refl _) (by decide) h.hp.lt fun j hj => ?_
 have := h.range 16 20 (by omega) j (.int .u8 ((mid K 16 20).getD j 0 : Nat)) (bvs_get _ _ (by rw [hl]; exact hj))
 exact this
theorem cway_fold (K : List Nat) (hK : K.length = 50) : Array.foldl (fun (cs : Array Value) (x : Value × Nat) => cs.setIfInBounds x.snd x.fst) #[Value.int .u8 0, Value.int .u8 0, Value.int .u8 0, Value.int .u8 0, Value.int .u8 0, Value.int .u8 0, Value.int .u8 0, Value.int .u8 0, Value.int .u8 0, Value.int .u8 0, Value.int .u8 0, Value.int .u8 0, Value.int .u8 0, Value.int .u8 0, Value.int .u8 0, Value.int .u8 0, Value.int .u8 0, Value.int .u8 0, Value.int .u8 0, Value.int .u8 0, Value.int .u8 0, Value.int .u8 0, Value.int .u8 0, Value.int .u8 0, Value.int .u8 0, Value.int .u8 0, Value.int .u8 0, Value.int .u8 0, Value.int .u8 0, Value.int .u8 0, Value.int .u8 0, Value.int .u8 0, Value.int .u8 0, Value.int .u8 0, Value.int .u8 0, Value.int .u8 0, Value.int .u8 0, Value.int .u8 0, Value.int .u8 0, Value.int .u8 0, Value.int .u8 0, Value.int .u8 0, Value.int .u8 0, Value.int .u8 0, Value.int .u8 0, Value.int .u8 0, Value.int .u8 0, Value.int .u8 0, Value.int .u8 0, Value.int .u8 0, .int .i64 0, .int .i64 0, .int .i64 0, .map none] (ivA .u8 K).zipIdx 0 50 = ivA .u8 K ++ #[.int .i64 0, .int .i64 0, .int .i64 0, .map none] := by
 have h := foldl_ivA K #[.int .i64 0, .int .i64 0, .int .i64 0, .map none] hK
 have hs : (ivA .u8 K).zipIdx.size = 50 := by rw [Array.size_zipIdx, ivA_size, hK]
 rw [hs] at h
 simp only [Nat.zero_add] at h
 exact h
theorem cway_cells (K : List Nat) (hK : K.length = 50) (lim : Int) (m : Value) : ((ivA .u8 K ++ #[Value.int .i64 0, .int .i64 0, .int .i64 0, .map none]).setIfInBounds 50 (.int .i64 lim)).setIfInBounds 53 m = ivA .u8 K ++ #[.int .i64 lim, .int .i64 0, .int .i64 0, m] := by
 have st : ∀ (a b d f x : Value), (ivA .u8 K ++ #[a, b, d, f]).setIfInBounds 50 x = ivA .u8 K ++ #[x, b, d, f] := fun a b d f x => by
  apply Array.ext'
  simp only [Array.toList_setIfInBounds, Array.toList_append]
  rw [List.set_append_right _ _ (by rw [Array.length_toList, ivA_size, hK]; omega), Array.length_toList, ivA_size, hK]
  rfl
 have st2 : ∀ (a b d f x : Value), (ivA .u8 K ++ #[a, b, d, f]).setIfInBounds 53 x = ivA .u8 K ++ #[a, b, d, x] := fun a b d f x => by
  apply Array.ext'
  simp only [Array.toList_setIfInBounds, Array.toList_append]
  rw [List.set_append_right _ _ (by rw [Array.length_toList, ivA_size, hK]; omega), Array.length_toList, ivA_size, hK]
  rfl
 rw [st, st2]
set_option maxRecDepth 100000 in
set_option maxHeartbeats 8000000 in
theorem cway_new (key salt : List Nat) (lim : Int) (hk : key.length = 16) (hkb : ByL key) (hs : salt.length = 14) (hsb : ByL salt) (w : World) :
  Calls Tryz.prog 20 #[.agg (ivA .u8 (key ++ salt)), .int .i64 lim] w fun e w' => ∃ g gm, e = .returned (.pointer (some ⟨g, 0, none⟩)) ∧ w.heap.size ≤ g ∧ w.heap.size ≤ gm ∧ CwV w' g (keysN key salt 3) lim 0 0 gm [] ∧ BW w w' := by
 have ck := fun wz => Lib.hid (krtcp_ok key salt hk hkb hs hsb wz)
 have hl := Lib.hid (keysN_len key salt 3)
 have hKl : Hid ((key ++ salt).length = 30) := by simp [Hid, hk, hs]
 have hby : Hid (ByL (keysN key salt 3)) := keysN_byl key salt 3 hkb
 generalize keysN key salt 3 = R at *
 generalize key ++ salt = K at *
 have A1 := Lib.hid (AvB.new w 25 K)
 have B1 := Lib.hid (show BW w (w.alloc (.cells (ivA .u8 K) 25)) from (BW.refl w).alloc)
 go_enter Tryz.func20, Tryz.ntmps20
 go_upto_region 1 with (fail)
 generalize w.alloc (.cells (ivA .u8 K) 25) = w1 at *
 generalize w.heap.size = g1 at *
 go_wp2_with (first | (refine ldA ar30 rfl rfl rfl A1.out hKl.out ?_))
 refine Calls.mono (ck w1).out ?_
 rintro e w2 ⟨rfl, hb⟩
 replace hb : BW w1 w2 := BW.of hb
 dsimp only
 have hmk : ∀ W : World, (Instr.makeMap 75 none).run Tryz.prog W = .ok (.map (some W.heap.size)) (W.alloc (.map #[] 0)) := fun W => rfl
 have hsz : (ivA .u8 R).size = 50 := by rw [ivA_size, hl.out]
 obtain ⟨F, hFe⟩ : ∃ F, ivA .u8 R ++ #[.int .i64 0, .int .i64 0, .int .i64 0, .map none] = F := ⟨_, rfl⟩
 have hfo := (cway_fold R hl.out).trans hFe
 have hFs : F.size = 54 := by rw [← hFe, Array.size_append, hsz]; rfl
 have hX : Hid ((F.setIfInBounds 50 (.int .i64 lim)).setIfInBounds 53 (.map (some w2.heap.size)) = cwayC R lim 0 0 w2.heap.size) := by
  show _ = _
  rw [← hFe, cway_cells R hl.out]
  rfl
 replace hFe := Lib.hid hFe
 obtain ⟨X, hXe⟩ : ∃ X, (F.setIfInBounds 50 (.int .i64 lim)).setIfInBounds 53 (.map (some w2.heap.size)) = X := ⟨_, rfl⟩
 rw [hXe] at hX
 have BM : BW w2 (w2.alloc (.map #[] 0)) := (BW.refl _).alloc
 have M3 := Lib.hid (MapIn.made w2)
 have BN : BW (w2.alloc (.map #[] 0)) ((w2.alloc (.map #[] 0)).alloc (.cells X 122)) := (BW.refl _).alloc
 have H4 := Lib.hid (hp_new (w2.alloc (.map #[] 0)) (.cells X 122) (w2.heap.size + 1) (by simp))
 have B4 := Lib.hid (((B1.out.trans hb).trans BM).trans BN)
 have hz := Lib.hid (B1.out.trans hb).size
 have M4 := Lib.hid (M3.out.still (BN.still []) (by simp))
 clear hb B1 A1 ck M3
 replace BM := Lib.hid BM
 replace BN := Lib.hid BN
 go_wp2_with fail
 go_ret
 exact ⟨w2.heap.size + 1, rfl, by have := hz.out; omega, w2.heap.size, hz.out, ⟨by rw [← hX.out]; exact H4.out, hl.out, hby.out, M4.out⟩, B4.out⟩
set_option maxRecDepth 100000 in
set_option maxHeartbeats 8000000 in
theorem cway_used (g : Nat) (K : List Nat) (lim : Int) (used nxt gm : Nat) (M : List (Nat × Nat × Nat)) (w : World) (hW : CwV w g K lim used nxt gm M) :
  Calls Tryz.prog 26 #[.pointer (some ⟨g, 0, none⟩)] w fun e w' => e = .returned (.int .i64 (used : Nat)) ∧ w = w' := by
 have z1 := hW.used
 clear hW
 go_enter Tryz.func26, Tryz.ntmps26
 go_wp2_with fail
 go_ret
 exact ⟨rfl, rfl⟩
end Go.Proofs.YtikmhlbpefednaaGreat

namespace Go.Proofs.YtikmhlbpefednaaGreat
open Go.RowKit
set_option maxRecDepth 100000 in
set_option maxHeartbeats 8000000 in
theorem csource_ok (sb : Option Addr) (n cb : Nat) (b : List Nat) (h8 : 8 ≤ n) (w : World) (hv : SB w (.slice sb n cb) n b) :
  Calls Tryz.prog 58 #[.slice sb n cb] w fun e w' => e = .returned (.int .u32 (nm b 4 4 : Nat)) ∧ w = w' := by
 have c := Lib.hid (num_ok (.slice sb n cb) n b 4 4 4 4 (by decide) (by decide) (by omega) rfl rfl w hv)
 have hl := nm_lt b hv.2.1 4 4
 rw [show numB ((b.drop 4).take 4) = nm b 4 4 from rfl] at c
 generalize nm b 4 4 = x at *
 have hx : (x : Int) ≤ 4294967295 := by omega
 clear hl hv
 go_enter Tryz.func58, Tryz.ntmps58
 go_wp2_with fail
 refine Calls.mono c.out ?_
 rintro e w' ⟨rfl, rfl⟩
 dsimp only
 clear c
 go_wp2_with fail
 go_ret
 exact ⟨rfl, rfl⟩
def spinC (K : List Nat) (i : Nat) (b : List Nat) : List Nat := cipN (wordsN (mid K 0 16)) (numB (firstN (mid K 36 14) (nm b 4 4) i)) (b.drop 8)
set_option maxRecDepth 100000 in
set_option maxHeartbeats 8000000 in
theorem cturn_ok (g : Nat) (K : List Nat) (lim : Int) (used nxt gm : Nat) (M : List (Nat × Nat × Nat)) (sb : Option Addr) (n cb : Nat) (b : List Nat) (i : Nat) (h8 : 8 ≤ n) (hi : i ≤ 2147483648) (hn : n ≤ 4096) (w : World) (hW : CwV w g K lim used nxt gm M) (hv : SB w (.slice sb n cb) n b) :
  Calls Tryz.prog 55 #[.pointer (some ⟨g, 0, none⟩), .slice sb n cb, .int .i64 (i : Nat)] w fun e w' => ∃ s c, e = .returned (.slice s (n - 8) c) ∧ OB w' w.heap.size 5 (.slice s (n - 8) c) (n - 8) (spinC K i b) ∧ BW w w' := by
 have hsl := mid_len K 36 14 (by rw [hW.len]; omega)
 have hkl := mid_len K 0 16 (by rw [hW.len]; omega)
 have hsb : ByL (mid K 36 14) := (hW.byt.drop _).take _
 have hkb : ByL (mid K 0 16) := (hW.byt.drop _).take _
 have hrs := fun wz (h : BW w wz) => Lib.hid ((hW.bw h).range 36 14 (by omega))
 have hrk := fun wz (h : BW w wz) => Lib.hid ((hW.bw h).range 0 16 (by omega))
 have hs4 := nm_lt b hv.2.1 4 4
 have cS := fun wz (h : BW w wz) => Lib.hid (csource_ok sb n cb b h8 wz (hv.bw h))
 have hF : Hid (spinC K i b = cipN (wordsN (mid K 0 16)) (numB (firstN (mid K 36 14) (nm b 4 4) i)) (b.drop 8)) := rfl
 generalize nm b 4 4 = src at *
 obtain ⟨_, _, he, hc, hm⟩ := hv.len
 cases he
 unfold maxLen at hm
 have cF := fun wz => Lib.hid (first_ok (mid K 36 14) src i hsl hsb (by omega) (by omega) wz)
 have hfl := firstN_len (mid K 36 14) src i
 have hfb := firstN_byt (mid K 36 14) src i (byt_of hsb)
 have V2 := hv.dropW 8 h8
 have cC := fun wz (h : SB wz (.slice (cutA sb 8 cb 1) (n - 8) (cb - 8)) (n - 8) (b.drop 8)) => Lib.hid (cipher_ok (mid K 0 16) (firstN (mid K 36 14) src i) _ _ _ _ hkl (byt_of hkb) hfl (byl_of hfb) (by omega) wz h)
 generalize cipN (wordsN (mid K 0 16)) (numB (firstN (mid K 36 14) src i)) (b.drop 8) = ci at *
 generalize firstN (mid K 36 14) src i = fi at *
 generalize mid K 0 16 = kk at *
 generalize mid K 36 14 = ss at *
 have hi2 : (i : Int) ≤ 2147483648 := by omega
 have h8c : 8 ≤ cb := by omega
 replace hsl := Lib.hid hsl
 replace hkl := Lib.hid hkl
 replace hsb := Lib.hid hsb
 replace hkb := Lib.hid hkb
 replace hfl := Lib.hid hfl
 replace hfb := Lib.hid hfb
 replace V2 := Lib.hid V2
 replace hs4 := Lib.hid hs4
 clear hW hv
 go_enter Tryz.func55, Tryz.ntmps55
 go_upto_region 1 with (fail)
 refine wp_region_gg [] [] [] (by kernel_rfl) ?_
 refine hoist [] [] (a1 := ?_) 0 rfl (by kernel_rfl) (.inl ⟨rfl, rfl⟩) rfl rfl rfl (fun x K hK => ?_) ?_
 rotate_left
 ·go_big_quiet_op
  exact hK
 refine hoist [] [] (a1 := ?_) 1 rfl (by kernel_rfl) (.inl ⟨rfl, rfl⟩) rfl rfl rfl (fun x K hK => ?_) ?_
 rotate_left
 ·go_big_quiet_op
  exact hK
 refine hoist [] [] (a1 := ?_) 2 rfl (by kernel_rfl) (.inl ⟨rfl, rfl⟩) rfl rfl rfl (fun x K hK => ?_) ?_
 rotate_left
 ·go_big_quiet_op
  exact hK
 refine hoist [] [] (a1 := ?_) 3 rfl (by kernel_rfl) (.inl ⟨rfl, rfl⟩) rfl rfl rfl (fun x K hK => ?_) ?_
 rotate_left
 ·go_big_quiet_op
  exact hK
 refine hoist [] [] (a1 := ?_) 4 rfl (by kernel_rfl) (.inl ⟨rfl, rfl⟩) rfl rfl rfl (fun x K hK => ?_) ?_
 rotate_left
 ·refine qlW ar16 rfl (by rfl) hkl.out (fun w' hw => by subst hw; exact (hrk _ x.bw).out) (by simp only [Act.put, List.setIfInBounds_toArray, List.set_cons_succ, List.set_cons_zero]; rfl) ?_
  exact hK
 refine hoist [] [] (a1 := ?_) 5 rfl (by kernel_rfl) (.inl ⟨rfl, rfl⟩) rfl rfl rfl (fun x K hK => ?_) ?_
 rotate_left
 ·go_big_quiet_op
  exact hK
 refine hoist [] [] (a1 := ?_) 6 rfl (by kernel_rfl) (.inl ⟨rfl, rfl⟩) rfl rfl rfl (fun x K hK => ?_) ?_
 rotate_left
 ·go_big_quiet_op
  exact hK
 refine hoist [] [] (a1 := ?_) 7 rfl (by kernel_rfl) (.inl ⟨rfl, rfl⟩) rfl rfl rfl (fun x K hK => ?_) ?_
 rotate_left
 ·go_big_quiet_op
  exact hK
 refine hoist [] [] (a1 := ?_) 8 rfl (by kernel_rfl) (.inl ⟨rfl, rfl⟩) rfl rfl rfl (fun x K hK => ?_) ?_
 rotate_left
 ·go_big_quiet_op
  exact hK
 refine hoist [] [] (a1 := ?_) 9 rfl (by kernel_rfl) (.inl ⟨rfl, rfl⟩) rfl rfl rfl (fun x K hK => ?_) ?_
 rotate_left
 ·refine qlW ar14 rfl (by rfl) hsl.out (fun w' hw => by subst hw; exact (hrs _ x.bw).out) (by simp only [Act.put, List.setIfInBounds_toArray, List.set_cons_succ, List.set_cons_zero]; rfl) ?_
  exact hK
 refine hoist [] [] (a1 := ?_) 10 rfl (by kernel_rfl) (.inl ⟨rfl, rfl⟩) rfl rfl rfl (fun x K hK => ?_) ?_
 rotate_left
 ·go_big_quiet_op
  exact hK
 refine hoist_call [] [] (a1 := ?_) 11 rfl (by kernel_rfl) (.inl ⟨rfl, rfl⟩) rfl rfl rfl (fun x K hK => ?_) ?_
 rotate_left
 ·go_big_quiet_op
  apply Exists.intro
  refine ⟨fun y => ?_, ?_⟩
  ·exact ((cS y.now (x.bw.trans y.bw)).out.mono fun _ _ h => ⟨h.1, y, h.2.symm⟩)
  ·exact hK
 refine hoist [] [] (a1 := ?_) 12 rfl (by kernel_rfl) (.inl ⟨rfl, rfl⟩) rfl rfl rfl (fun x K hK => ?_) ?_
 rotate_left
 ·go_big_quiet_op
  exact hK
 refine hoist [] [] (a1 := ?_) 13 rfl (by kernel_rfl) (.inl ⟨rfl, rfl⟩) rfl rfl rfl (fun x K hK => ?_) ?_
 rotate_left
 ·go_big_quiet_op
  exact hK
 refine hoist [] [] (a1 := ?_) 15 rfl (by kernel_rfl) (.inl ⟨rfl, rfl⟩) rfl rfl rfl (fun x K hK => ?_) ?_
 rotate_left
 ·go_big_quiet_op
  exact hK
 refine hoist [] [] (a1 := ?_) 16 rfl (by kernel_rfl) (.inl ⟨rfl, rfl⟩) rfl rfl rfl (fun x K hK => ?_) ?_
 rotate_left
 ·refine qlCutL (lo := 8) rfl (by rfl) (by rfl) rfl h8 (by simp only [Act.put, List.setIfInBounds_toArray, List.set_cons_succ, List.set_cons_zero]; rfl) ?_
  exact hK
 refine effect 14 rfl (by kernel_rfl) (by kernel_rfl) rfl (fun x14 K hK => ?_)
 go_simp
 refine Calls.mono (cF x14.now).out ?_
 rintro e w3 ⟨rfl, hb⟩
 replace hb : BW x14.now w3 := BW.of hb
 refine hK _ _ (hb.still []) ?_
 clear hK K
 have B3 := Lib.hid (x14.bw.trans hb)
 clear hb cF
 try simp only [Act.put, List.setIfInBounds_toArray, List.set_cons_succ, List.set_cons_zero]
 refine effect 17 rfl (by kernel_rfl) (by kernel_rfl) rfl (fun x17 K hK => ?_)
 go_simp
 refine Calls.mono (cC x17.now (V2.out.bw (B3.out.trans x17.bw))).out ?_
 rintro e w4 ⟨v4, rfl, O4, hb⟩
 obtain ⟨s4, c4, rfl, _, _⟩ := O4.len
 replace hb : BW x17.now w4 := BW.of hb
 refine hK _ _ (hb.still []) ?_
 clear hK K
 have B4 := Lib.hid ((B3.out.trans x17.bw).trans hb)
 replace O4 := Lib.hid (O4.base (Nat.le_trans B3.out.size x17.bw.size))
 clear hb cC B3
 try simp only [Act.put, List.setIfInBounds_toArray, List.set_cons_succ, List.set_cons_zero]
 refine hoist [] [] (a1 := ?_) 18 rfl (by kernel_rfl) (.inl ⟨rfl, rfl⟩) rfl rfl rfl (fun x K hK => ?_) ?_
 rotate_left
 ·go_big_quiet_op
  exact hK
 refine done (by kernel_rfl) (fun xr => ?_)
 have B5 := Lib.hid (B4.out.trans xr.bw)
 have O5 := Lib.hid (O4.out.bw xr.bw)
 clear B4 O4
 go_wp2_with fail
 go_ret
 exact ⟨s4, c4, rfl, by rw [hF.out]; exact O5.out, B5.out⟩
end Go.Proofs.YtikmhlbpefednaaGreat

namespace Go.Proofs.YtikmhlbpefednaaGreat
open Go.RowKit
def tagC (K m : List Nat) : List Nat := (hmacN (mid K 16 20) m).take 10
theorem tagC_len (K m : List Nat) : (tagC K m).length = 10 := by
 unfold tagC
 rw [List.length_take, hmac_len]
 rfl
set_option maxRecDepth 100000 in
set_option maxHeartbeats 8000000 in
theorem ctagged_ok (g : Nat) (K : List Nat) (lim : Int) (used nxt gm : Nat) (M : List (Nat × Nat × Nat)) (sp : Option Addr) (np cp : Nat) (rows : List (List Nat)) (N : Nat) (hN : rows.flatten.length = N) (hNb : N ≤ 4096) (hnp : np ≤ 1000) (w : World) (hW : CwV w g K lim used nxt gm M) (hv : SM w (.slice sp np cp) np rows) :
  Calls Tryz.prog 54 #[.pointer (some ⟨g, 0, none⟩), .slice sp np cp] w fun e w' => ∃ s c, e = .returned (.slice s (N + 10) c) ∧ OB w' w.heap.size 5 (.slice s (N + 10) c) (N + 10) (rows.flatten ++ tagC K rows.flatten) ∧ BW w w' := by
 have cN := fun wz (h : BW w wz) => Lib.hid (concat_ok (.slice sp np cp) np rows (by omega) wz (hv.bw h))
 have cT := fun wz (h : BW w wz) => Lib.hid (tag_ok (some ⟨g, 16, none⟩) 20 20 sp np cp 10 (mid K 16 20) rows (by omega) (by omega) (by omega) (by omega) (by omega) wz ((hW.bw h).auth) (hv.bw h))
 rw [show (10 : Int).toNat = 10 from rfl] at cT
 rw [show (hmacN (mid K 16 20) rows.flatten).take 10 = tagC K rows.flatten from rfl] at cT
 rw [hN] at cN
 generalize tagC K rows.flatten = tg at *
 generalize rows.flatten = fl at *
 have hz := Lib.hid (Nat.le_refl w.heap.size)
 clear hW hv
 replace hN := Lib.hid hN
 go_enter Tryz.func54, Tryz.ntmps54
 go_upto_region 1 with (fail)
 refine wp_region_gg [] [] [9] (by kernel_rfl) ?_
 refine hoist [] [] (a1 := ?_) 0 rfl (by kernel_rfl) (.inl ⟨rfl, rfl⟩) rfl rfl rfl (fun x K hK => ?_) ?_
 rotate_left
 ·go_big_quiet_op
  exact hK
 refine hoist [] [] (a1 := ?_) 2 rfl (by kernel_rfl) (.inl ⟨rfl, rfl⟩) rfl rfl rfl (fun x K hK => ?_) ?_
 rotate_left
 ·go_big_quiet_op
  exact hK
 refine hoist [] [] (a1 := ?_) 3 rfl (by kernel_rfl) (.inl ⟨rfl, rfl⟩) rfl rfl rfl (fun x K hK => ?_) ?_
 rotate_left
 ·go_big_quiet_op
  exact hK
 refine hoist [] [] (a1 := ?_) 4 rfl (by kernel_rfl) (.inl ⟨rfl, rfl⟩) rfl rfl rfl (fun x K hK => ?_) ?_
 rotate_left
 ·go_big_quiet_op
  exact hK
 refine hoist [] [] (a1 := ?_) 5 rfl (by kernel_rfl) (.inl ⟨rfl, rfl⟩) rfl rfl rfl (fun x K hK => ?_) ?_
 rotate_left
 ·go_big_quiet_op
  exact hK
 refine hoist [] [] (a1 := ?_) 6 rfl (by kernel_rfl) (.inl ⟨rfl, rfl⟩) rfl rfl rfl (fun x K hK => ?_) ?_
 rotate_left
 ·go_big_quiet_op
  exact hK
 refine hoist [] [] (a1 := ?_) 7 rfl (by kernel_rfl) (.inl ⟨rfl, rfl⟩) rfl rfl rfl (fun x K hK => ?_) ?_
 rotate_left
 ·go_big_quiet_op
  exact hK
 refine effect 1 rfl (by kernel_rfl) (by kernel_rfl) rfl (fun x1 K hK => ?_)
 go_simp
 refine Calls.mono (cN x1.now x1.bw).out ?_
 rintro e w2 ⟨v2, rfl, O2, hb⟩
 obtain ⟨s2, c2, rfl, hc2, hm2⟩ := O2.len
 unfold maxLen at hm2
 replace hb : BW x1.now w2 := BW.of hb
 refine hK _ _ (hb.still []) ?_
 clear hK K
 have B2 := Lib.hid (x1.bw.trans hb)
 replace O2 := Lib.hid (O2.base x1.bw.size)
 clear hb cN
 try simp only [Act.put, List.setIfInBounds_toArray, List.set_cons_succ, List.set_cons_zero]
 refine effect 8 rfl (by kernel_rfl) (by kernel_rfl) rfl (fun x8 K hK => ?_)
 go_simp
 refine Calls.mono (cT x8.now (B2.out.trans x8.bw)).out ?_
 rintro e w3 ⟨v3, rfl, O3, hb⟩
 obtain ⟨s3, c3, rfl, _, _⟩ := O3.len
 replace hb : BW x8.now w3 := BW.of hb
 refine hK _ _ (hb.still []) ?_
 clear hK K
 have hb3 := x8.bw.trans hb
 replace O2 := Lib.hid (O2.out.bw hb3)
 replace O3 := Lib.hid O3
 have B3 := Lib.hid (B2.out.trans hb3)
 clear hb hb3 cT B2
 try simp only [Act.put, List.setIfInBounds_toArray, List.set_cons_succ, List.set_cons_zero]
 refine tail 9 rfl (by kernel_rfl) rfl (fun xr => ?_)
 simp only [List.drop_succ_cons, List.drop_zero]
 replace O2 := Lib.hid (O2.out.bw xr.bw)
 replace O3 := Lib.hid (O3.out.bw xr.bw)
 have B := Lib.hid (B3.out.trans xr.bw)
 clear B3
 generalize xr.now = w5 at *
 go_wp2_with (at_builtin; go_must (refine wpList_apOB rfl _ _ rfl w.heap.size _ _ _ rfl (O2.out) _ rfl _ _ (O3.out.sb) (by omega) (BW.trans B.out (by repeat (first | exact BW.refl _ | apply BW.alloc | apply BW.drewN | apply BW.drew))).size ?_; intro s6 c6 w6 hcc6 hmc6 O6 hT hb hG; unfold maxLen at hmc6; replace hG := Lib.hid hG; replace hT := Lib.hid hT; skip))
 replace B := Lib.hid (BW.step (BW.trans B.out (by repeat (first | exact BW.refl _ | apply BW.alloc | apply BW.drewN | apply BW.drew))) hb (Nat.le_refl _))
 replace O6 := Lib.hid O6
 clear hb
 go_ret
 exact ⟨s6, c6, rfl, O6.out, B.out⟩
end Go.Proofs.YtikmhlbpefednaaGreat

namespace Go.Proofs.YtikmhlbpefednaaGreat
open Go.RowKit
theorem SM.three (w : World) (x : Value) (lx : Nat) (l : List Nat) (y : Value) (ly : Nat) (k : List Nat) (z : Value) (lz : Nat) (m : List Nat) (hx : SB w x lx l) (hy : SB w y ly k) (hz : SB w z lz m) : SM (w.alloc (.cells #[x, y, z] 35)) (.slice (some ⟨w.heap.size, 0, none⟩) 3 3) 3 [l, k, m] := by
 refine ⟨rfl, [x, y, z], ⟨rfl, by decide, .inr ⟨w.heap.size, 0, 3, rfl, Nat.le_refl _, by decide, by simp, fun j hj => ?_⟩⟩, fun i u hu => ?_⟩
 ·rcases (show j = 0 ∨ j = 1 ∨ j = 2 by omega) with rfl | rfl | rfl <;> simp [go_sem]
 ·match i, hu with
  | 0, hu => simp at hu; subst hu; exact ⟨lx, hx.alloc _⟩
  | 1, hu => simp at hu; subst hu; exact ⟨ly, hy.alloc _⟩
  | 2, hu => simp at hu; subst hu; exact ⟨lz, hz.alloc _⟩
  | i + 3, hu => simp at hu
theorem or31 : ∀ k, k < 16 → bits .or .i64 2147483648 ((k : Nat) : Int) = ((2147483648 + k : Nat) : Int) := by decide
def csealM (K B : List Nat) (i : Nat) : List Nat := [B.take 8, spinC K i B, putB 4 (2147483648 + i)].flatten
def csealB (K B : List Nat) (i : Nat) : List Nat := csealM K B i ++ tagC K (csealM K B i)
theorem csealM_len (K B : List Nat) (i : Nat) (h : 8 ≤ B.length) : (csealM K B i).length = B.length + 4 := by
 unfold csealM spinC
 simp only [List.flatten_cons, List.flatten_nil, List.append_nil, List.length_append, cipN_len, putB_len, List.length_take, List.length_drop]
 omega
theorem CwV.more {w : World} {g : Nat} {K : List Nat} {lim : Int} {used nxt gm : Nat} {M : List (Nat × Nat × Nat)} (h : CwV w g K lim used nxt gm M) : CwV ((w.setCell ⟨g, 52, none⟩ (.int .i64 ((nxt + 1 : Nat) : Int))).setCell ⟨g, 51, none⟩ (.int .i64 ((used + 1 : Nat) : Int))) g K lim (used + 1) (nxt + 1) gm M := by
 have h1 := hp_set h.hp 52 (.int .i64 ((nxt + 1 : Nat) : Int))
 have h2 := hp_set h1 51 (.int .i64 ((used + 1 : Nat) : Int))
 have e : ((cwayC K lim used nxt gm).setIfInBounds 52 (.int .i64 ((nxt + 1 : Nat) : Int))).setIfInBounds 51 (.int .i64 ((used + 1 : Nat) : Int)) = cwayC K lim (used + 1) (nxt + 1) gm := by
  apply Array.ext'
  simp only [cwayC, Array.toList_setIfInBounds, Array.toList_append]
  rw [List.set_append_right _ _ (by simp [ivA, h.len]), List.set_append_right _ _ (by simp [ivA, h.len])]
  simp [ivA, h.len]
 rw [e] at h2
 exact ⟨h2, h.len, h.byt, (h.mp.still (still_sc w g 52 _) (by simpa using h.ne.symm)).still (still_sc _ g 51 _) (by simpa using h.ne.symm)⟩
inductive CsealPost (g : Nat) (K : List Nat) (lim : Int) (used nxt gm : Nat) (M : List (Nat × Nat × Nat)) (nb : Nat) (B : List Nat) (w : World) (e : Ending) (w' : World) : Prop
 | spent (h : lim ≤ used) (he : e = .returned (.tuple #[.slice none 0 0, .int .i64 7])) (hb : BW w w')
 | yes (h : ¬ lim ≤ used) (s : Option Addr) (c : Nat) (he : e = .returned (.tuple #[.slice s (nb + 14) c, .int .i64 0])) (ho : OB w' w.heap.size 5 (.slice s (nb + 14) c) (nb + 14) (csealB K B nxt)) (hw : CwV w' g K lim (used + 1) (nxt + 1) gm M) (ht : Still [g] w w')
set_option maxRecDepth 100000 in
set_option maxHeartbeats 8000000 in
theorem cseal_ok (g : Nat) (K : List Nat) (lim : Int) (used nxt gm : Nat) (M : List (Nat × Nat × Nat)) (lv : Value) (nb : Nat) (B : List Nat) (h8 : 8 ≤ nb) (hnb : nb ≤ 1186) (hu : used ≤ 1000) (hx : nxt < 16) (w : World) (cW : ∀ wz, BW w wz → Calls Tryz.prog 53 #[lv] wz fun e w' => ∃ s c, e = .returned (.tuple #[.slice s nb c, .int .i64 0]) ∧ OB w' wz.heap.size 5 (.slice s nb c) nb B ∧ BW wz w') (hlv : ∃ sa n cap, lv = .slice sa n cap) (hW : CwV w g K lim used nxt gm M) :
  Calls Tryz.prog 21 #[.pointer (some ⟨g, 0, none⟩), lv] w (CsealPost g K lim used nxt gm M nb B w) := by
 obtain ⟨sa, nl, cl_, rfl⟩ := hlv
 have hWW := Lib.hid hW
 have hg := Lib.hid hW.hp.lt
 have cWW := fun wz h => Lib.hid (cW wz h)
 have l0 : ∀ y : LaterS [] w, y.now.cell? _ = _ := fun y => (hW.bw y.bw).lim
 have l1 : ∀ y : LaterS [] w, y.now.cell? _ = _ := fun y => (hW.bw y.bw).used
 have l2 : ∀ y : LaterS [] w, y.now.cell? _ = _ := fun y => (hW.bw y.bw).nxt
 have d2 : decide ((2147483648 : Int) ≤ (nxt : Int)) = false := by simp; omega
 clear hW cW
 by_cases hsp : lim ≤ (used : Int)
 ·have d1 : decide (lim ≤ (used : Int)) = true := by simpa using hsp
  go_enter Tryz.func21, Tryz.ntmps21
  go_upto_region 1 with (fail)
  refine wp_region_gg [] [] [] (by kernel_rfl) ?_
  refine hoist [] [] (a1 := ?_) 0 rfl (by kernel_rfl) (.inl ⟨rfl, rfl⟩) rfl rfl rfl (fun x K hK => ?_) ?_
  rotate_left
  ·go_big_quiet_op
   exact hK
  refine hoist [] [] (a1 := ?_) 1 rfl (by kernel_rfl) (.inl ⟨rfl, rfl⟩) rfl rfl rfl (fun x K hK => ?_) ?_
  rotate_left
  ·go_big_quiet_op
   exact hK
  refine hoist [] [] (a1 := ?_) 2 rfl (by kernel_rfl) (.inl ⟨rfl, rfl⟩) rfl rfl rfl (fun x K hK => ?_) ?_
  rotate_left
  ·go_big_quiet_op
   exact hK
  refine hoist [] [] (a1 := ?_) 3 rfl (by kernel_rfl) (.inl ⟨rfl, rfl⟩) rfl rfl rfl (fun x K hK => ?_) ?_
  rotate_left
  ·go_big_quiet_op
   exact hK
  refine hoist [] [] (a1 := ?_) 4 rfl (by kernel_rfl) (.inl ⟨rfl, rfl⟩) rfl rfl rfl (fun x K hK => ?_) ?_
  rotate_left
  ·go_big_quiet_op
   exact hK
  refine hoist [] [] (a1 := ?_) 5 rfl (by kernel_rfl) (.inl ⟨rfl, rfl⟩) rfl rfl rfl (fun x K hK => ?_) ?_
  rotate_left
  ·go_big_quiet_op
   exact hK
  refine hoist [] [] (a1 := ?_) 6 rfl (by kernel_rfl) (.inl ⟨rfl, rfl⟩) rfl rfl rfl (fun x K hK => ?_) ?_
  rotate_left
  ·go_big_quiet_op
   exact hK
  refine hoist [] [] (a1 := ?_) 7 rfl (by kernel_rfl) (.inl ⟨rfl, rfl⟩) rfl rfl rfl (fun x K hK => ?_) ?_
  rotate_left
  ·go_big_quiet_op
   exact hK
  refine hoist [] [] (a1 := ?_) 8 rfl (by kernel_rfl) (.inl ⟨rfl, rfl⟩) rfl rfl rfl (fun x K hK => ?_) ?_
  rotate_left
  ·go_big_quiet_op
   exact hK
  refine hoist [] [] (a1 := ?_) 9 rfl (by kernel_rfl) (.inl ⟨rfl, rfl⟩) rfl rfl rfl (fun x K hK => ?_) ?_
  rotate_left
  ·go_big_quiet_op
   exact hK
  refine hoist_skip [] [] 10 rfl (by kernel_rfl) (.inl ⟨rfl, rfl⟩) rfl (a1 := ?_) ?_ ?_
  rotate_left
  ·simp only [Act.put, List.setIfInBounds_toArray, List.set_cons_succ, List.set_cons_zero]; rfl
  refine hoist_skip [] [] 11 rfl (by kernel_rfl) (.inl ⟨rfl, rfl⟩) rfl (a1 := ?_) ?_ ?_
  rotate_left
  ·simp only [Act.put, List.setIfInBounds_toArray, List.set_cons_succ, List.set_cons_zero]; rfl
  refine hoist_skip [] [] 12 rfl (by kernel_rfl) (.inl ⟨rfl, rfl⟩) rfl (a1 := ?_) ?_ ?_
  rotate_left
  ·simp only [Act.put, List.setIfInBounds_toArray, List.set_cons_succ, List.set_cons_zero]; rfl
  refine hoist_skip [] [] 13 rfl (by kernel_rfl) (.inl ⟨rfl, rfl⟩) rfl (a1 := ?_) ?_ ?_
  rotate_left
  ·simp only [Act.put, List.setIfInBounds_toArray, List.set_cons_succ, List.set_cons_zero]; rfl
  refine hoist_skip [] [] 14 rfl (by kernel_rfl) (.inl ⟨rfl, rfl⟩) rfl (a1 := ?_) ?_ ?_
  rotate_left
  ·simp only [Act.put, List.setIfInBounds_toArray, List.set_cons_succ, List.set_cons_zero]; rfl
  refine hoist [] [] (a1 := ?_) 15 rfl (by kernel_rfl) (.inl ⟨rfl, rfl⟩) rfl rfl rfl (fun x K hK => ?_) ?_
  rotate_left
  ·go_big_quiet_op
   exact hK
  refine done (by kernel_rfl) (fun xr => ?_)
  have B1 := Lib.hid xr.bw
  clear l0 l1 l2
  go_wp2_with fail
  go_ret2
  exact .spent hsp rfl B1.out
 have d1 : decide (lim ≤ (used : Int)) = false := by simpa using hsp
 replace hsp := Lib.hid hsp
 go_enter Tryz.func21, Tryz.ntmps21
 go_upto_region 1 with (fail)
 refine wp_region_gg [] [] [] (by kernel_rfl) ?_
 refine hoist [] [] (a1 := ?_) 0 rfl (by kernel_rfl) (.inl ⟨rfl, rfl⟩) rfl rfl rfl (fun x K hK => ?_) ?_
 rotate_left
 ·go_big_quiet_op
  exact hK
 refine hoist [] [] (a1 := ?_) 1 rfl (by kernel_rfl) (.inl ⟨rfl, rfl⟩) rfl rfl rfl (fun x K hK => ?_) ?_
 rotate_left
 ·go_big_quiet_op
  exact hK
 refine hoist [] [] (a1 := ?_) 2 rfl (by kernel_rfl) (.inl ⟨rfl, rfl⟩) rfl rfl rfl (fun x K hK => ?_) ?_
 rotate_left
 ·go_big_quiet_op
  exact hK
 refine hoist [] [] (a1 := ?_) 3 rfl (by kernel_rfl) (.inl ⟨rfl, rfl⟩) rfl rfl rfl (fun x K hK => ?_) ?_
 rotate_left
 ·go_big_quiet_op
  exact hK
 refine hoist [] [] (a1 := ?_) 4 rfl (by kernel_rfl) (.inl ⟨rfl, rfl⟩) rfl rfl rfl (fun x K hK => ?_) ?_
 rotate_left
 ·go_big_quiet_op
  exact hK
 refine hoist [] [] (a1 := ?_) 5 rfl (by kernel_rfl) (.inl ⟨rfl, rfl⟩) rfl rfl rfl (fun x K hK => ?_) ?_
 rotate_left
 ·go_big_quiet_op
  exact hK
 refine hoist [] [] (a1 := ?_) 6 rfl (by kernel_rfl) (.inl ⟨rfl, rfl⟩) rfl rfl rfl (fun x K hK => ?_) ?_
 rotate_left
 ·go_big_quiet_op
  exact hK
 refine hoist [] [] (a1 := ?_) 7 rfl (by kernel_rfl) (.inl ⟨rfl, rfl⟩) rfl rfl rfl (fun x K hK => ?_) ?_
 rotate_left
 ·go_big_quiet_op
  exact hK
 refine hoist [] [] (a1 := ?_) 8 rfl (by kernel_rfl) (.inl ⟨rfl, rfl⟩) rfl rfl rfl (fun x K hK => ?_) ?_
 rotate_left
 ·go_big_quiet_op
  exact hK
 refine hoist [] [] (a1 := ?_) 9 rfl (by kernel_rfl) (.inl ⟨rfl, rfl⟩) rfl rfl rfl (fun x K hK => ?_) ?_
 rotate_left
 ·go_big_quiet_op
  exact hK
 refine hoist [] [] (a1 := ?_) 10 rfl (by kernel_rfl) (.inl ⟨rfl, rfl⟩) rfl rfl rfl (fun x K hK => ?_) ?_
 rotate_left
 ·go_big_quiet_op
  exact hK
 refine hoist [] [] (a1 := ?_) 11 rfl (by kernel_rfl) (.inl ⟨rfl, rfl⟩) rfl rfl rfl (fun x K hK => ?_) ?_
 rotate_left
 ·go_big_quiet_op
  exact hK
 refine hoist [] [] (a1 := ?_) 12 rfl (by kernel_rfl) (.inl ⟨rfl, rfl⟩) rfl rfl rfl (fun x K hK => ?_) ?_
 rotate_left
 ·go_big_quiet_op
  exact hK
 refine hoist [] [] (a1 := ?_) 13 rfl (by kernel_rfl) (.inl ⟨rfl, rfl⟩) rfl rfl rfl (fun x K hK => ?_) ?_
 rotate_left
 ·go_big_quiet_op
  exact hK
 refine hoist [] [] (a1 := ?_) 14 rfl (by kernel_rfl) (.inl ⟨rfl, rfl⟩) rfl rfl rfl (fun x K hK => ?_) ?_
 rotate_left
 ·go_big_quiet_op
  exact hK
 refine hoist [] [] (a1 := ?_) 15 rfl (by kernel_rfl) (.inl ⟨rfl, rfl⟩) rfl rfl rfl (fun x K hK => ?_) ?_
 rotate_left
 ·go_big_quiet_op
  exact hK
 refine done (by kernel_rfl) (fun xr => ?_)
 have B1 := Lib.hid xr.bw
 clear l0 l1 l2
 generalize xr.now = w1 at *
 go_wp2_with fail
 refine Calls.mono (cWW w1 B1.out).out ?_
 rintro e w2 ⟨s2, c2, rfl, O2, hb⟩
 obtain ⟨_, _, he, hc2, hm2⟩ := O2.len
 cases he
 unfold maxLen at hm2
 have hBl := Lib.hid O2.1
 have B2 := Lib.hid (B1.out.trans hb)
 replace O2 := Lib.hid (O2.base B1.out.size)
 clear hb cWW d1 d2
 dsimp only
 go_upto_region 6 with (fail)
 have z5 := (hWW.out.bw B2.out).nxt
 have z6 := (hWW.out.bw B2.out).used
 have f5 := hp_frz (hWW.out.bw B2.out).hp 52
 have f6 := hp_frz (hWW.out.bw B2.out).hp 51
 have W6 := Lib.hid (hWW.out.bw B2.out).more
 have T6 := (still_sc w2 g 52 (.int .i64 ((nxt + 1 : Nat) : Int))).trans (still_sc _ g 51 (.int .i64 ((used + 1 : Nat) : Int)))
 have O6 := Lib.hid (O2.out.still T6 (fun k hk hm => by obtain rfl : k = g := (by simpa using hm); have := O2.out.ge' k hk; have := hg.out; omega))
 have R6 := Lib.hid ((B2.out.still [g]).trans T6)
 have h46 := Lib.hid (Nat.le_trans B2.out.size T6.size)
 clear B2 O2 T6 hWW
 push_cast at W6 O6 R6 h46
 go_upto_region 9 with (fail)
 clear z5 z6 f5 f6
 generalize ((w2.setCell _ _).setCell _ _) = w6 at *
 have hS : SB w6 (.slice none 0 0) 0 [] := ⟨rfl, (fun x hx => by cases hx), (Ows.nil w6 0 5 1).sls⟩
 have eor := or31 nxt hx
 have hM : Hid (csealM K B nxt = [B.take 8, spinC K nxt B, putB 4 (2147483648 + nxt)].flatten) := rfl
 have hMl := csealM_len K B nxt (by rw [hBl.out]; exact h8)
 have hR : Hid (csealB K B nxt = csealM K B nxt ++ tagC K (csealM K B nxt)) := rfl
 have cP := fun wz (h : BW w6 wz) => Lib.hid (put_ok (.slice none 0 0) 0 [] 4 (2147483648 + nxt) 4 (by omega) (by omega) rfl (by omega) (by omega) wz (hS.bw h))
 simp only [List.nil_append, Nat.zero_add] at cP
 have cT := fun wz (h : BW w6 wz) => Lib.hid (cturn_ok g K lim (used + 1) (nxt + 1) gm M s2 nb c2 B nxt h8 (by omega) (by omega) wz (W6.out.bw h) (O6.out.sb.bw h))
 have V1 := Lib.hid (O6.out.sb.takeW 8 h8)
 have cG := fun wz sp cp (h : BW w6 wz) hv => Lib.hid (ctagged_ok g K lim (used + 1) (nxt + 1) gm M sp 3 cp [B.take 8, spinC K nxt B, putB 4 (2147483648 + nxt)] (nb + 4) (by rw [← hM.out, hMl, hBl.out]) (by omega) (by omega) wz (W6.out.bw h) hv)
 rw [← hM.out] at cG
 rw [← hR.out] at cG
 generalize hfull : csealB K B nxt = full at *
 generalize csealM K B nxt = cm at *
 generalize spinC K nxt B = ci at *
 generalize putB 4 (2147483648 + nxt) = pb at *
 generalize B.take 8 = b8 at *
 generalize hq : 2147483648 + nxt = q at *
 have hq2 : (q : Int) ≤ 2147483664 := by omega
 have hc8 : 8 ≤ c2 := by omega
 clear hS
 replace hM := Lib.hid hM
 replace hMl := Lib.hid hMl
 replace hR := Lib.hid hR
 replace hq := Lib.hid hq
 replace hfull := Lib.hid hfull
 refine wp_region_gg [] [] [12] (by kernel_rfl) ?_
 refine hoist [] [] (a1 := ?_) 0 rfl (by kernel_rfl) (.inl ⟨rfl, rfl⟩) rfl rfl rfl (fun x K hK => ?_) ?_
 rotate_left
 ·go_big_quiet_op
  exact hK
 refine hoist [] [] (a1 := ?_) 1 rfl (by kernel_rfl) (.inl ⟨rfl, rfl⟩) rfl rfl rfl (fun x K hK => ?_) ?_
 rotate_left
 ·go_big_quiet_op
  exact hK
 refine hoist [] [] (a1 := ?_) 2 rfl (by kernel_rfl) (.inl ⟨rfl, rfl⟩) rfl rfl rfl (fun x K hK => ?_) ?_
 rotate_left
 ·refine qlCutH (hi := 8) rfl (by rfl) (by rfl) rfl hc8 (by simp only [Act.put, List.setIfInBounds_toArray, List.set_cons_succ, List.set_cons_zero]; rfl) ?_
  exact hK
 refine hoist [] [] (a1 := ?_) 3 rfl (by kernel_rfl) (.inl ⟨rfl, rfl⟩) rfl rfl rfl (fun x K hK => ?_) ?_
 rotate_left
 ·go_big_quiet_op
  exact hK
 refine hoist [] [] (a1 := ?_) 4 rfl (by kernel_rfl) (.inl ⟨rfl, rfl⟩) rfl rfl rfl (fun x K hK => ?_) ?_
 rotate_left
 ·go_big_quiet_op
  exact hK
 refine hoist [] [] (a1 := ?_) 5 rfl (by kernel_rfl) (.inl ⟨rfl, rfl⟩) rfl rfl rfl (fun x K hK => ?_) ?_
 rotate_left
 ·go_big_quiet_op
  exact hK
 refine hoist [] [] (a1 := ?_) 7 rfl (by kernel_rfl) (.inl ⟨rfl, rfl⟩) rfl rfl rfl (fun x K hK => ?_) ?_
 rotate_left
 ·go_big_quiet_op
  exact hK
 refine hoist [] [] (a1 := ?_) 8 rfl (by kernel_rfl) (.inl ⟨rfl, rfl⟩) rfl rfl rfl (fun x K hK => ?_) ?_
 rotate_left
 ·go_big_quiet_op
  exact hK
 refine hoist [] [] (a1 := ?_) 9 rfl (by kernel_rfl) (.inl ⟨rfl, rfl⟩) rfl rfl rfl (fun x K hK => ?_) ?_
 rotate_left
 ·go_big_quiet_op
  exact hK
 refine effect 6 rfl (by kernel_rfl) (by kernel_rfl) rfl (fun x6 K hK => ?_)
 go_simp
 refine Calls.mono (cT x6.now x6.bw).out ?_
 rintro e w7 ⟨s7, c7, rfl, O7, hb⟩
 refine hK _ _ (hb.still []) ?_
 clear hK K
 have B7 := Lib.hid (x6.bw.trans hb)
 replace O7 := Lib.hid O7
 clear hb cT
 try simp only [Act.put, List.setIfInBounds_toArray, List.set_cons_succ, List.set_cons_zero]
 refine effect 10 rfl (by kernel_rfl) (by kernel_rfl) rfl (fun x10 K hK => ?_)
 go_simp
 refine Calls.mono (cP x10.now (B7.out.trans x10.bw)).out ?_
 rintro e w8 ⟨v8, rfl, O8, hb⟩
 obtain ⟨s8, c8, rfl, _, _⟩ := O8.len
 replace hb : BW x10.now w8 := BW.of hb
 refine hK _ _ (hb.still []) ?_
 clear hK K
 replace O7 := Lib.hid (O7.out.bw (x10.bw.trans hb))
 have B8 := Lib.hid (B7.out.trans (x10.bw.trans hb))
 replace O8 := Lib.hid O8
 clear hb cP B7
 try simp only [Act.put, List.setIfInBounds_toArray, List.set_cons_succ, List.set_cons_zero]
 refine effect 11 rfl (by kernel_rfl) (by kernel_rfl) rfl (fun x11 K hK => ?_)
 go_simp
 refine hK _ _ (Still.of_below ((Below.refl _ _).alloc (Nat.le_refl _) _)) ?_
 clear hK K
 have hb := x11.bw.trans ((BW.refl x11.now).alloc (o := .cells #[.slice s2 8 c2, .slice s7 (nb - 8) c7, .slice s8 4 c8] 35))
 have B9 := Lib.hid (B8.out.trans hb)
 have S9 := Lib.hid (SM.three x11.now (.slice s2 8 c2) 8 b8 (.slice s7 (nb - 8) c7) (nb - 8) ci (.slice s8 4 c8) 4 pb (V1.out.bw (B8.out.trans x11.bw)) (O7.out.bw x11.bw).sb (O8.out.bw x11.bw).sb)
 clear hb B8 O7 O8
 generalize (x11.now.alloc _) = w9 at *
 generalize x11.now.heap.size = g9 at *
 try simp only [Act.put, List.setIfInBounds_toArray, List.set_cons_succ, List.set_cons_zero]
 refine tail 12 rfl (by kernel_rfl) rfl (fun xr => ?_)
 simp only [List.drop_succ_cons, List.drop_zero]
 have cGG := cG xr.now (some ⟨g9, 0, none⟩) 3 (B9.out.trans xr.bw) (S9.out.bw xr.bw)
 have BX := Lib.hid (B9.out.trans xr.bw)
 clear B9 S9 cG
 generalize xr.now = wy at *
 go_wp2_with fail
 refine Calls.mono cGG.out ?_
 rintro e wz ⟨s9, c9, rfl, O9, hb⟩
 have WZ := Lib.hid (W6.out.bw (BX.out.trans hb))
 have RZ := Lib.hid (R6.out.bw' (BX.out.trans hb))
 have hz := Lib.hid (Nat.le_trans h46.out BX.out.size)
 replace O9 := Lib.hid O9
 clear hb cGG W6 R6 O6 V1 BX
 dsimp only
 go_wp2_with fail
 go_ret2
 exact .yes (by have := hsp.out; omega) s9 c9 rfl (by rw [hfull.out]; exact O9.out.up hz.out) (by simpa using WZ.out) RZ.out
end Go.Proofs.YtikmhlbpefednaaGreat

namespace Go.Proofs.YtikmhlbpefednaaGreat
open Go.RowKit
def cfreshE (lim : Int) (used : Nat) (M : List (Nat × Nat × Nat)) (src i : Nat) : Nat :=
 if lim ≤ used then 7 else if hasW M src = false ∧ 8 ≤ M.length then 6 else if wFresh (getW M src).1 (getW M src).2 i = false then 5 else 0
set_option maxRecDepth 100000 in
set_option maxHeartbeats 8000000 in
theorem cfresh_ok (g : Nat) (K : List Nat) (lim : Int) (used nxt gm : Nat) (M : List (Nat × Nat × Nat)) (src i : Nat) (hM : MOk M) (hs : src < 4294967296) (hi : i ≤ 4294967296) (w : World) (hW : CwV w g K lim used nxt gm M) :
  Calls Tryz.prog 59 #[.pointer (some ⟨g, 0, none⟩), .int .u32 (src : Nat), .int .i64 (i : Nat)] w fun e w' => e = .returned (.tuple #[.agg #[.int .i64 ((getW M src).1 : Nat), .int .u64 ((getW M src).2 : Nat)], .int .i64 (cfreshE lim used M src i : Nat)]) ∧ BW w w' := by
 have hlk := fun wz (h : BW w wz) => look_w ((hW.bw h).mp) hM src hs
 have hln := fun wz (h : BW w wz) ty => ((hW.bw h).mp).len Tryz.underlying75 ty
 have hml : (winS M).length = M.length := by simp [winS]
 have hb := getW_b hM src
 have hmap := fun wz (h : BW w wz) => (hW.bw h).map
 have hlm := fun wz (h : BW w wz) => (hW.bw h).lim
 have hus := fun wz (h : BW w wz) => (hW.bw h).used
 have hE : cfreshE lim used M src i = if lim ≤ used then 7 else if hasW M src = false ∧ 8 ≤ M.length then 6 else if wFresh (getW M src).1 (getW M src).2 i = false then 5 else 0 := rfl
 rw [hml] at hln
 generalize cfreshE lim used M src i = R at *
 generalize M.length = ml at *
 generalize hasW M src = has at *
 generalize getW M src = vb at *
 obtain ⟨nx, bs⟩ := vb
 dsimp only at hE hb hlk ⊢
 have cF := fun wz p (h : WinV wz p nx bs) => Lib.hid (wfresh_ok p nx bs i (by omega) hb.2 (by omega) wz h)
 clear hW hml hi
 have BA : BW w (w.alloc (.cells #[.int .i64 0, .int .u64 0] 93)) := (BW.refl w).alloc
 have X1 := Lib.hid (HpB.new w (.cells #[.int .i64 0, .int .u64 0] 93))
 have m1 := hmap _ BA
 have k1 := hlk _ BA
 have B1 := Lib.hid BA
 clear hb
 replace BA := Lib.hid BA
 replace hE := Lib.hid hE
 go_enter Tryz.func59, Tryz.ntmps59
 go_upto_region 1 with (fail)
 generalize (w.alloc _) = w1 at *
 clear BA
 obtain ⟨g0, hg0⟩ : ∃ g0, g0 = w.heap.size := ⟨_, rfl⟩
 rw [← hg0] at X1 ⊢
 have BC : BW w1 (w1.alloc (.cells #[.int .i64 (nx : Nat), .int .u64 (bs : Nat)] 93)) := (BW.refl w1).alloc
 have Y2 := Lib.hid (show WinV _ w1.heap.size nx bs from HpB.new w1 (.cells #[.int .i64 (nx : Nat), .int .u64 (bs : Nat)] 93))
 have X2 := Lib.hid (X1.out.bw BC)
 have B2 := Lib.hid (B1.out.trans BC)
 clear X1 B1
 replace hg0 := Lib.hid hg0
 replace BC := Lib.hid BC
 go_upto_region 2 with (fail)
 generalize (w1.alloc _) = w2 at *
 generalize w1.heap.size = g1 at *
 clear m1 k1 BC
 have l0 : ∀ y : LaterS [] w2, y.now.cell? _ = _ := fun y => hlm y.now (B2.out.trans y.bw)
 have l1 : ∀ y : LaterS [] w2, y.now.cell? _ = _ := fun y => hus y.now (B2.out.trans y.bw)
 refine wp_region_gg [] [] [] (by kernel_rfl) ?_
 refine hoist [] [] (a1 := ?_) 0 rfl (by kernel_rfl) (.inl ⟨rfl, rfl⟩) rfl rfl rfl (fun x K hK => ?_) ?_
 rotate_left
 ·go_big_quiet_op
  exact hK
 refine hoist [] [] (a1 := ?_) 1 rfl (by kernel_rfl) (.inl ⟨rfl, rfl⟩) rfl rfl rfl (fun x K hK => ?_) ?_
 rotate_left
 ·go_big_quiet_op
  exact hK
 refine hoist [] [] (a1 := ?_) 2 rfl (by kernel_rfl) (.inl ⟨rfl, rfl⟩) rfl rfl rfl (fun x K hK => ?_) ?_
 rotate_left
 ·go_big_quiet_op
  exact hK
 refine hoist [] [] (a1 := ?_) 3 rfl (by kernel_rfl) (.inl ⟨rfl, rfl⟩) rfl rfl rfl (fun x K hK => ?_) ?_
 rotate_left
 ·go_big_quiet_op
  exact hK
 refine hoist [] [] (a1 := ?_) 4 rfl (by kernel_rfl) (.inl ⟨rfl, rfl⟩) rfl rfl rfl (fun x K hK => ?_) ?_
 rotate_left
 ·go_big_quiet_op
  exact hK
 refine hoist [] [] (a1 := ?_) 5 rfl (by kernel_rfl) (.inl ⟨rfl, rfl⟩) rfl rfl rfl (fun x K hK => ?_) ?_
 rotate_left
 ·go_big_quiet_op
  exact hK
 refine hoist [] [] (a1 := ?_) 6 rfl (by kernel_rfl) (.inl ⟨rfl, rfl⟩) rfl rfl rfl (fun x K hK => ?_) ?_
 rotate_left
 ·go_big_quiet_op
  exact hK
 refine hoist [] [] (a1 := ?_) 7 rfl (by kernel_rfl) (.inl ⟨rfl, rfl⟩) rfl rfl rfl (fun x K hK => ?_) ?_
 rotate_left
 ·go_big_quiet_op
  exact hK
 refine hoist [] [] (a1 := ?_) 8 rfl (by kernel_rfl) (.inl ⟨rfl, rfl⟩) rfl rfl rfl (fun x K hK => ?_) ?_
 rotate_left
 ·go_big_quiet_op
  exact hK
 refine hoist [] [] (a1 := ?_) 9 rfl (by kernel_rfl) (.inl ⟨rfl, rfl⟩) rfl rfl rfl (fun x K hK => ?_) ?_
 rotate_left
 ·go_big_quiet_op
  exact hK
 refine done (by kernel_rfl) (fun xr => ?_)
 have B3 := Lib.hid (B2.out.trans xr.bw)
 have X3 := Lib.hid (X2.out.bw xr.bw)
 have Y3 := Lib.hid (Y2.out.bw xr.bw)
 clear l0 l1 B2 X2 Y2 hlm hus hlk
 generalize xr.now = w3 at *
 by_cases h1 : lim ≤ (used : Int)
 ·rw [decide_eq_true h1]
  have hR := hE.out
  rw [if_pos h1] at hR
  subst hR
  clear h1 hln cF hE hmap
  have q0 := (hp_cell Y3.out 0).trans (show _ = some (.int .i64 (nx : Nat)) from rfl)
  have q1 := (hp_cell Y3.out 1).trans (show _ = some (.int .u64 (bs : Nat)) from rfl)
  have p0 := (hp_cell X3.out 0).trans (show _ = some (.int .i64 0) from rfl)
  have p1 := (hp_cell X3.out 1).trans (show _ = some (.int .u64 0) from rfl)
  have f0 := hp_frz X3.out 0
  have f1 := hp_frz X3.out 1
  have T4 := (still_sc w3 g0 0 (.int .i64 (nx : Nat))).trans (still_sc _ g0 1 (.int .u64 (bs : Nat)))
  have X4 : HpB ((w3.setCell ⟨g0, 0, none⟩ (.int .i64 (nx : Nat))).setCell ⟨g0, 1, none⟩ (.int .u64 (bs : Nat))) g0 (.cells #[.int .i64 (nx : Nat), .int .u64 (bs : Nat)] 93) := hp_set (hp_set X3.out 0 _) 1 _
  have B4 := Lib.hid (B3.out.stP T4 (fun k hk => by obtain rfl : k = g0 := (by simpa using hk); exact Nat.le_of_eq hg0.out.symm))
  have z0 := (hp_cell X4 0).trans (show _ = some (.int .i64 (nx : Nat)) from rfl)
  have z1 := (hp_cell X4 1).trans (show _ = some (.int .u64 (bs : Nat)) from rfl)
  replace T4 := Lib.hid T4
  replace X4 := Lib.hid X4
  replace z0 := Lib.hid z0
  replace z1 := Lib.hid z1
  go_wp2_with fail
  have z0' := z0.out
  have z1' := z1.out
  refine bodyPost_ret (v := _) ?_ rfl ⟨rfl, B4.out⟩
  simp [results, Tryz.results59, go_sem, z0', z1']
 rw [decide_eq_false h1]
 have hE1 := Lib.hid (hE.out.trans (if_neg h1))
 clear h1 hE
 have zm := hmap w3 B3.out
 have zl := hln w3 B3.out
 cases has with
 | true =>
  have hE2 := Lib.hid (hE1.out.trans (if_neg (fun h => by cases h.1)))
  clear hE1 hln hmap
  have hE3 := hE2.out
  go_wp2_with fail
  refine Calls.mono (cF w3 g1 Y3.out).out ?_
  rintro e w' ⟨rfl, rfl⟩
  clear cF
  dsimp only
  cases hf : wFresh nx bs i with
  | false =>
   rw [if_pos hf] at hE3
   subst hE3
   clear hf hE2
   have q0 := (hp_cell Y3.out 0).trans (show _ = some (.int .i64 (nx : Nat)) from rfl)
   have q1 := (hp_cell Y3.out 1).trans (show _ = some (.int .u64 (bs : Nat)) from rfl)
   have p0 := (hp_cell X3.out 0).trans (show _ = some (.int .i64 0) from rfl)
   have p1 := (hp_cell X3.out 1).trans (show _ = some (.int .u64 0) from rfl)
   have f0 := hp_frz X3.out 0
   have f1 := hp_frz X3.out 1
   have T4 := (still_sc w3 g0 0 (.int .i64 (nx : Nat))).trans (still_sc _ g0 1 (.int .u64 (bs : Nat)))
   have X4 : HpB ((w3.setCell ⟨g0, 0, none⟩ (.int .i64 (nx : Nat))).setCell ⟨g0, 1, none⟩ (.int .u64 (bs : Nat))) g0 (.cells #[.int .i64 (nx : Nat), .int .u64 (bs : Nat)] 93) := hp_set (hp_set X3.out 0 _) 1 _
   have B4 := Lib.hid (B3.out.stP T4 (fun k hk => by obtain rfl : k = g0 := (by simpa using hk); exact Nat.le_of_eq hg0.out.symm))
   have z0 := (hp_cell X4 0).trans (show _ = some (.int .i64 (nx : Nat)) from rfl)
   have z1 := (hp_cell X4 1).trans (show _ = some (.int .u64 (bs : Nat)) from rfl)
   replace T4 := Lib.hid T4
   replace X4 := Lib.hid X4
   replace z0 := Lib.hid z0
   replace z1 := Lib.hid z1
   go_wp2_with fail
   have z0' := z0.out
   have z1' := z1.out
   refine bodyPost_ret (v := _) ?_ rfl ⟨rfl, B4.out⟩
   simp [results, Tryz.results59, go_sem, z0', z1']
  | true =>
   rw [if_neg (by rw [hf]; simp)] at hE3
   subst hE3
   clear hf hE2
   have q0 := (hp_cell Y3.out 0).trans (show _ = some (.int .i64 (nx : Nat)) from rfl)
   have q1 := (hp_cell Y3.out 1).trans (show _ = some (.int .u64 (bs : Nat)) from rfl)
   have p0 := (hp_cell X3.out 0).trans (show _ = some (.int .i64 0) from rfl)
   have p1 := (hp_cell X3.out 1).trans (show _ = some (.int .u64 0) from rfl)
   have f0 := hp_frz X3.out 0
   have f1 := hp_frz X3.out 1
   have T4 := (still_sc w3 g0 0 (.int .i64 (nx : Nat))).trans (still_sc _ g0 1 (.int .u64 (bs : Nat)))
   have X4 : HpB ((w3.setCell ⟨g0, 0, none⟩ (.int .i64 (nx : Nat))).setCell ⟨g0, 1, none⟩ (.int .u64 (bs : Nat))) g0 (.cells #[.int .i64 (nx : Nat), .int .u64 (bs : Nat)] 93) := hp_set (hp_set X3.out 0 _) 1 _
   have B4 := Lib.hid (B3.out.stP T4 (fun k hk => by obtain rfl : k = g0 := (by simpa using hk); exact Nat.le_of_eq hg0.out.symm))
   have z0 := (hp_cell X4 0).trans (show _ = some (.int .i64 (nx : Nat)) from rfl)
   have z1 := (hp_cell X4 1).trans (show _ = some (.int .u64 (bs : Nat)) from rfl)
   replace T4 := Lib.hid T4
   replace X4 := Lib.hid X4
   replace z0 := Lib.hid z0
   replace z1 := Lib.hid z1
   go_wp2_with fail
   have z0' := z0.out
   have z1' := z1.out
   refine bodyPost_ret (v := _) ?_ rfl ⟨rfl, B4.out⟩
   simp [results, Tryz.results59, go_sem, z0', z1']
 | false =>
  by_cases h8 : 8 ≤ ml
  ·have d8 : decide ((8 : Int) ≤ (ml : Int)) = true := by simp; omega
   have hR := hE1.out.trans (if_pos ⟨rfl, h8⟩)
   subst hR
   clear hln hmap cF hE1 h8
   have q0 := (hp_cell Y3.out 0).trans (show _ = some (.int .i64 (nx : Nat)) from rfl)
   have q1 := (hp_cell Y3.out 1).trans (show _ = some (.int .u64 (bs : Nat)) from rfl)
   have p0 := (hp_cell X3.out 0).trans (show _ = some (.int .i64 0) from rfl)
   have p1 := (hp_cell X3.out 1).trans (show _ = some (.int .u64 0) from rfl)
   have f0 := hp_frz X3.out 0
   have f1 := hp_frz X3.out 1
   have T4 := (still_sc w3 g0 0 (.int .i64 (nx : Nat))).trans (still_sc _ g0 1 (.int .u64 (bs : Nat)))
   have X4 : HpB ((w3.setCell ⟨g0, 0, none⟩ (.int .i64 (nx : Nat))).setCell ⟨g0, 1, none⟩ (.int .u64 (bs : Nat))) g0 (.cells #[.int .i64 (nx : Nat), .int .u64 (bs : Nat)] 93) := hp_set (hp_set X3.out 0 _) 1 _
   have B4 := Lib.hid (B3.out.stP T4 (fun k hk => by obtain rfl : k = g0 := (by simpa using hk); exact Nat.le_of_eq hg0.out.symm))
   have z0 := (hp_cell X4 0).trans (show _ = some (.int .i64 (nx : Nat)) from rfl)
   have z1 := (hp_cell X4 1).trans (show _ = some (.int .u64 (bs : Nat)) from rfl)
   replace T4 := Lib.hid T4
   replace X4 := Lib.hid X4
   replace z0 := Lib.hid z0
   replace z1 := Lib.hid z1
   go_wp2_with fail
   have z0' := z0.out
   have z1' := z1.out
   refine bodyPost_ret (v := _) ?_ rfl ⟨rfl, B4.out⟩
   simp [results, Tryz.results59, go_sem, z0', z1']
  have d8 : decide ((8 : Int) ≤ (ml : Int)) = false := by simp; omega
  have hE2 := Lib.hid (hE1.out.trans (if_neg (fun h => h8 h.2)))
  clear hE1 hln hmap h8
  have hE3 := hE2.out
  go_wp2_with fail
  refine Calls.mono (cF w3 g1 Y3.out).out ?_
  rintro e w' ⟨rfl, rfl⟩
  clear cF
  dsimp only
  cases hf : wFresh nx bs i with
  | false =>
   rw [if_pos hf] at hE3
   subst hE3
   clear hf hE2
   have q0 := (hp_cell Y3.out 0).trans (show _ = some (.int .i64 (nx : Nat)) from rfl)
   have q1 := (hp_cell Y3.out 1).trans (show _ = some (.int .u64 (bs : Nat)) from rfl)
   have p0 := (hp_cell X3.out 0).trans (show _ = some (.int .i64 0) from rfl)
   have p1 := (hp_cell X3.out 1).trans (show _ = some (.int .u64 0) from rfl)
   have f0 := hp_frz X3.out 0
   have f1 := hp_frz X3.out 1
   have T4 := (still_sc w3 g0 0 (.int .i64 (nx : Nat))).trans (still_sc _ g0 1 (.int .u64 (bs : Nat)))
   have X4 : HpB ((w3.setCell ⟨g0, 0, none⟩ (.int .i64 (nx : Nat))).setCell ⟨g0, 1, none⟩ (.int .u64 (bs : Nat))) g0 (.cells #[.int .i64 (nx : Nat), .int .u64 (bs : Nat)] 93) := hp_set (hp_set X3.out 0 _) 1 _
   have B4 := Lib.hid (B3.out.stP T4 (fun k hk => by obtain rfl : k = g0 := (by simpa using hk); exact Nat.le_of_eq hg0.out.symm))
   have z0 := (hp_cell X4 0).trans (show _ = some (.int .i64 (nx : Nat)) from rfl)
   have z1 := (hp_cell X4 1).trans (show _ = some (.int .u64 (bs : Nat)) from rfl)
   replace T4 := Lib.hid T4
   replace X4 := Lib.hid X4
   replace z0 := Lib.hid z0
   replace z1 := Lib.hid z1
   go_wp2_with fail
   have z0' := z0.out
   have z1' := z1.out
   refine bodyPost_ret (v := _) ?_ rfl ⟨rfl, B4.out⟩
   simp [results, Tryz.results59, go_sem, z0', z1']
  | true =>
   rw [if_neg (by rw [hf]; simp)] at hE3
   subst hE3
   clear hf hE2
   have q0 := (hp_cell Y3.out 0).trans (show _ = some (.int .i64 (nx : Nat)) from rfl)
   have q1 := (hp_cell Y3.out 1).trans (show _ = some (.int .u64 (bs : Nat)) from rfl)
   have p0 := (hp_cell X3.out 0).trans (show _ = some (.int .i64 0) from rfl)
   have p1 := (hp_cell X3.out 1).trans (show _ = some (.int .u64 0) from rfl)
   have f0 := hp_frz X3.out 0
   have f1 := hp_frz X3.out 1
   have T4 := (still_sc w3 g0 0 (.int .i64 (nx : Nat))).trans (still_sc _ g0 1 (.int .u64 (bs : Nat)))
   have X4 : HpB ((w3.setCell ⟨g0, 0, none⟩ (.int .i64 (nx : Nat))).setCell ⟨g0, 1, none⟩ (.int .u64 (bs : Nat))) g0 (.cells #[.int .i64 (nx : Nat), .int .u64 (bs : Nat)] 93) := hp_set (hp_set X3.out 0 _) 1 _
   have B4 := Lib.hid (B3.out.stP T4 (fun k hk => by obtain rfl : k = g0 := (by simpa using hk); exact Nat.le_of_eq hg0.out.symm))
   have z0 := (hp_cell X4 0).trans (show _ = some (.int .i64 (nx : Nat)) from rfl)
   have z1 := (hp_cell X4 1).trans (show _ = some (.int .u64 (bs : Nat)) from rfl)
   replace T4 := Lib.hid T4
   replace X4 := Lib.hid X4
   replace z0 := Lib.hid z0
   replace z1 := Lib.hid z1
   go_wp2_with fail
   have z0' := z0.out
   have z1' := z1.out
   refine bodyPost_ret (v := _) ?_ rfl ⟨rfl, B4.out⟩
   simp [results, Tryz.results59, go_sem, z0', z1']
end Go.Proofs.YtikmhlbpefednaaGreat
