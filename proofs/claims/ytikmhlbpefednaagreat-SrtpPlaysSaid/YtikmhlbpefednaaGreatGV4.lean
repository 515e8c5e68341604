/- Packets sealed and opened, in plain words. Nothing of the program; no condition. The document's example of packets sealed. No condition. -/
import Derived.Test.YtikmhlbpefednaaGreatSrJ
import Derived.Test.YtikmhlbpefednaaGreatGPr
import Derived.Lib.SlBytesConst
namespace Go.Proofs.YtikmhlbpefednaaGreat
open Go.RowKit
theorem bytes_first (d : RtpD) : (bytesN d).getD 0 0 = firstB d := rfl
theorem first64 (d : RtpD) (h : mayN d = true) : firstB d / 64 = 2 := by
 have hm := of_decide_eq_true h
 unfold firstB; split <;> split <;> omega
theorem bytes_seq (d : RtpD) (w : RtpWf d) : nm (bytesN d) 2 2 = d.seq := nmAt (A := [firstB d, secondN d]) rfl w.seq
theorem bytes_src (d : RtpD) (w : RtpWf d) : nm (bytesN d) 8 4 = d.source := by
 have := nmAt (A := [firstB d, secondN d] ++ putB 2 d.seq ++ putB 4 d.stamp) (B := othN d.others ++ (extN d ++ (d.payload ++ padN d.pad))) (a := 8) (n := 4) (x := d.source) (by simp [putB_len]) w.source
 rw [← this]; simp only [bytesN, headN, List.append_assoc]
theorem hdr_sealed (K : List Nat) (d : RtpD) (i : Nat) (h : mayN d = true) : hdrN (spinN K (hdrN (bytesN d)).1 d.source i (bytesN d)) = hdrN (bytesN d) := by
 have hh : (hdrN (bytesN d)).2 = true := by rw [hdr_bytes d h]
 have hg := hdrN_ge _ hh
 exact hdrN_same _ _ (spinN_len K _ _ _ _ hg.2).symm hh (spinN_take K _ _ _ _ hg.2)
theorem getD_app (A B : List Nat) (h : 0 < A.length) : (A ++ B).getD 0 0 = A.getD 0 0 := by
 rw [List.getD_eq_getElem?_getD, List.getD_eq_getElem?_getD, List.getElem?_append_left h]
theorem peek_sealed (K : List Nat) (d : RtpD) (i : Nat) (w : RtpWf d) (h : mayN d = true) (hl : (bytesN d).length ≤ 1190) : peekN (sealB K d i) = (d.source, d.seq, 0) := by
 have hh : (hdrN (bytesN d)).2 = true := by rw [hdr_bytes d h]
 have hg := hdrN_ge _ hh
 have hs := hdr_sealed K d i h
 have hL := sealB_len K d i h
 have hb := spinN_len K (hdrN (bytesN d)).1 d.source i (bytesN d) hg.2
 have ht : (sealB K d i).take ((sealB K d i).length - 10) = spinN K (hdrN (bytesN d)).1 d.source i (bytesN d) := by
  rw [hL, Nat.add_sub_cancel]
  unfold sealB
  exact takeAt hb
 have hk := spinN_take K (hdrN (bytesN d)).1 d.source i (bytesN d) hg.2
 have hn : ∀ a n, a + n ≤ 12 → nm (sealB K d i) a n = nm (bytesN d) a n := fun a n ha => by
  unfold sealB
  rw [nmIn (by omega), ← nm_take _ (hdrN (bytesN d)).1 a n (by omega), hk, nm_take _ _ _ _ (by omega)]
 have h0 : (sealB K d i).getD 0 0 = firstB d := by
  unfold sealB
  rw [getD_app _ _ (by omega), ← getD_take _ (hdrN (bytesN d)).1 (by omega), hk, getD_take _ _ (by omega)]
  exact bytes_first d
 unfold peekN
 rw [ht, hs, hh, h0, hL, if_neg (by omega), if_neg (by omega), if_neg (by rw [first64 d h]; simp), if_neg (by simp), hn 8 4 (by decide), hn 2 2 (by decide), bytes_src d w, bytes_seq d w]
theorem getW_nil (s : Nat) : getW [] s = (0, 0) := rfl
theorem idxN_nil (s : Nat) (hs : s < 65536) : idxN ((((0 : Nat) : Int)) - 1) s = s := by
 unfold idxN
 split <;> (try omega) <;> simp <;> omega
theorem fresh_nil (src seq : Nat) (hq : seq < 65536) : freshE 9 0 [] src seq = ((seq : Int), 0) := by
 unfold freshE
 rw [getW_nil]
 dsimp only
 rw [if_neg (by decide), if_neg (fun h => by have := h.2; simp at this), idxN_nil _ hq, if_neg (by omega), wFresh_new, if_neg (by simp)]
theorem open_first (K : List Nat) (d : RtpD) (w : RtpWf d) (h : mayN d = true) (hl : (bytesN d).length ≤ 1190) :
  openN K 9 0 [] (sealB K d d.seq) = ((0, (d.seq : Int), d), 1, [(d.source, d.seq + 1, 1)]) := by
 have hh : (hdrN (bytesN d)).2 = true := by rw [hdr_bytes d h]
 have hg := hdrN_ge _ hh
 have hL := sealB_len K d d.seq h
 have hb := spinN_len K (hdrN (bytesN d)).1 d.source d.seq (bytesN d) hg.2
 have ht : (sealB K d d.seq).take ((sealB K d d.seq).length - 10) = spinN K (hdrN (bytesN d)).1 d.source d.seq (bytesN d) := by
  rw [hL, Nat.add_sub_cancel]
  unfold sealB
  exact takeAt hb
 have hd : (sealB K d d.seq).drop ((sealB K d d.seq).length - 10) = tagN K (spinN K (hdrN (bytesN d)).1 d.source d.seq (bytesN d)) d.seq := by
  rw [hL, Nat.add_sub_cancel]
  unfold sealB
  exact dropAt hb
 have hs := hdr_sealed K d d.seq h
 unfold openN
 rw [peek_sealed K d d.seq w h hl]
 dsimp only
 rw [fresh_nil _ _ w.seq, ht, hd, hs]
 dsimp only
 rw [Int.toNat_natCast, if_neg (by simp), if_neg (by simp), if_neg (by simp), spinN_twice K _ _ _ _ hg.2, read_write d w h (by omega), if_neg (by simp), getW_nil, wMark_new]
 rfl
theorem getW_one (s : Nat) (v : Nat × Nat) : getW [(s, v)] s = v := by simp [getW]
theorem idxN_same (s : Nat) (hs : s < 65536) : idxN (((s + 1 : Nat) : Int) - 1) s = s := by
 unfold idxN
 split <;> (try omega) <;> simp <;> omega
theorem open_again (K : List Nat) (d : RtpD) (w : RtpWf d) (h : mayN d = true) (hl : (bytesN d).length ≤ 1190) :
  openN K 9 1 [(d.source, d.seq + 1, 1)] (sealB K d d.seq) = ((5, 0, rZero), 1, [(d.source, d.seq + 1, 1)]) := by
 have hf : freshE 9 1 [(d.source, d.seq + 1, 1)] d.source d.seq = (0, 5) := by
  unfold freshE
  rw [getW_one]
  dsimp only
  rw [if_neg (by decide), if_neg (fun h => by have := h.2; simp at this), idxN_same _ w.seq, if_neg (by have := w.seq; omega), wFresh_old, if_pos rfl]
 unfold openN
 rw [peek_sealed K d d.seq w h hl]
 dsimp only
 rw [hf, if_neg (by simp), if_pos (by simp)]
end Go.Proofs.YtikmhlbpefednaaGreat

namespace Go.Proofs.YtikmhlbpefednaaGreat
open Go.RowKit
theorem SealPost.get {g : Nat} {K : List Nat} {lim : Int} {used gm : Nat} {M : List (Nat × Nat × Nat)} {d : RtpD} {i : Int} {w : World} {e : Ending} {w' : World} (h : SealPost g K lim used gm M d i w e w') (h1 : (used : Int) < lim) (h2 : okS d i) :
  ∃ s c, e = .returned (.tuple #[.slice s (sealB K d i.toNat).length c, .int .i64 0]) ∧ OB w' w.heap.size 5 (.slice s (sealB K d i.toNat).length c) (sealB K d i.toNat).length (sealB K d i.toNat) ∧ WayV w' g K lim (used + 1) gm M ∧ Still [g] w w' := by
 cases h with
 | spent h => omega
 | no _ hk => exact absurd h2 hk
 | yes _ _ s c he ho hw ht => exact ⟨s, c, he, ho, hw, ht⟩
theorem OpenPost.form {g : Nat} {K : List Nat} {lim : Int} {gm er u : Nat} {ix : Int} {d : RtpD} {M : List (Nat × Nat × Nat)} {w : World} {e : Ending} {w' : World} (h : OpenPost g K lim gm ((er, ix, d), u, M) w e w') :
  ∃ so_ co se ce sp cp, e = .returned (.tuple #[.agg (rtpC d.marker d.typ d.seq d.stamp d.source (.slice so_ d.others.length co) d.ext d.profile (.slice se d.extra.length ce) (.slice sp d.payload.length cp) d.pad), .int .i64 ix, .int .i64 (er : Nat)]) ∧ RtpO w' w.heap.size (rtpC d.marker d.typ d.seq d.stamp d.source (.slice so_ d.others.length co) d.ext d.profile (.slice se d.extra.length ce) (.slice sp d.payload.length cp) d.pad) d ∧ WayV w' g K lim u gm M ∧ Still [g, gm] w w' := by
 obtain ⟨⟨c, rfl, O⟩, hW, hS⟩ := h
 obtain ⟨so_, co, se, ce, sp, cp, rfl, -, -, -⟩ := O.open
 exact ⟨so_, co, se, ce, sp, cp, rfl, O, hW, hS⟩
def srD : RtpD := ⟨false, 96, 7, 0, 5, [], false, 0, [], [104, 101, 108, 108, 111], 0⟩
def srK : List Nat := keysN (zeros 16) (zeros 14) 0
theorem srD_wf : RtpWf srD := ⟨by decide, by decide, by decide, by decide, by decide, by decide, by unfold ByL; decide, by unfold ByL; decide, by decide⟩
theorem srD_may : mayN srD = true := by decide
theorem srD_len : (bytesN srD).length = 17 := by decide
theorem srD_ok1 : okS srD 65543 := ⟨srD_may, by decide, by decide, by decide, by decide⟩
theorem srD_ok2 : okS srD 7 := ⟨srD_may, by decide, by decide, by decide, by decide⟩
theorem srD_spin : spinN srK 12 5 65543 (bytesN srD) ≠ spinN srK 12 5 7 (bytesN srD) := by decide +kernel
theorem srD_ne : sealB srK srD 65543 ≠ sealB srK srD 7 := by
 intro h
 have h1 := congrArg (fun l => l.take 17) h
 have hh : hdrN (bytesN srD) = (12, true) := by decide
 have e : ∀ i, (sealB srK srD i).take 17 = spinN srK 12 5 i (bytesN srD) := fun i => by
  unfold sealB
  rw [hh]
  exact takeAt (by rw [spinN_len _ _ _ _ _ (by decide)]; exact srD_len)
 simp only [e] at h1
 exact srD_spin h1
theorem srD_seal (i : Nat) : (sealB srK srD i).length = 27 := by rw [sealB_len _ _ _ srD_may, srD_len]
theorem srZ : ivA .u8 (zeros 16 ++ zeros 14) = #[.int .u8 0, .int .u8 0, .int .u8 0, .int .u8 0, .int .u8 0, .int .u8 0, .int .u8 0, .int .u8 0, .int .u8 0, .int .u8 0, .int .u8 0, .int .u8 0, .int .u8 0, .int .u8 0, .int .u8 0, .int .u8 0, .int .u8 0, .int .u8 0, .int .u8 0, .int .u8 0, .int .u8 0, .int .u8 0, .int .u8 0, .int .u8 0, .int .u8 0, .int .u8 0, .int .u8 0, .int .u8 0, .int .u8 0, .int .u8 0] := rfl
theorem srM1 : MOk [(5, 8, 1)] := ⟨by simp, by simp⟩
theorem SB_cst (w : World) (c : Array Value) (T : TypeId) (fr : Nat × Nat) (n : Nat) (l : List Nat) (hl : l.length = n) (hb : ByL l) (hm : n ≤ maxLen) (hc : c.toList = bvs l) (g : Nat) (hg : g = w.heap.size) : SB (w.alloc (.cells c T fr)) (.slice (some ⟨g, 0, none⟩) n n) n l := by
 subst hg
 refine SB.mk' hl hb (Nat.le_refl _) hm (by simp) fun j hj => ?_
 rw [Nat.zero_add, hp_cell (hp_new w _ _ rfl), ← Array.getElem?_toList, hc, bvs_get _ _ (by omega)]
set_option maxRecDepth 100000 in
set_option maxHeartbeats 8000000 in
theorem srtp_alive (w : World) : Calls Tryz.prog 5 #[] w fun e w' => e = .returned (.bool true) ∧ BW w w' := by
 have cN := fun wz => Lib.hid (way_new (zeros 16) (zeros 14) 9 (zeros_len 16) (zeros_byL 16) (zeros_len 14) (zeros_byL 14) wz)
 rw [srZ, show keysN (zeros 16) (zeros 14) 0 = srK from rfl] at cN
 have cS1 := fun wz g gm c hW hV => Lib.hid (seal_ok g srK 9 0 gm [] c srD 65543 (by decide) (by decide) wz hW hV srD_wf (by decide))
 have cS2 := fun wz g gm c hW hV => Lib.hid (seal_ok g srK 9 1 gm [] c srD 7 (by decide) (by decide) wz hW hV srD_wf (by decide))
 have cO1 := fun wz g gm sb cb hW hv hvo => Lib.hid (open_ok g srK 9 0 gm [] sb 27 cb (sealB srK srD 7) MOk.nil (by decide) (by decide) wz hW hv hvo)
 have cO2 := fun wz g gm sb cb hW hv hvo => Lib.hid (open_ok g srK 9 1 gm [(5, 8, 1)] sb 27 cb (sealB srK srD 7) srM1 (by decide) (by decide) wz hW hv hvo)
 rw [show openN srK 9 0 [] (sealB srK srD 7) = _ from open_first srK srD srD_wf srD_may (by rw [srD_len]; decide)] at cO1
 rw [show openN srK 9 1 [(5, 8, 1)] (sealB srK srD 7) = _ from open_again srK srD srD_wf srD_may (by rw [srD_len]; decide)] at cO2
 replace cO1 := fun wz g gm sb cb hW hv hvo => Lib.hid (show Calls Tryz.prog 12 #[.pointer (some ⟨g, 0, none⟩), .slice sb 27 cb] wz fun e w' => ∃ so_ co se ce sp cp, e = .returned (.tuple #[.agg #[.bool false, .int .u8 96, .int .u16 7, .int .u32 0, .int .u32 5, .slice so_ 0 co, .bool false, .int .u16 0, .slice se 0 ce, .slice sp 5 cp, .int .u8 0], .int .i64 7, .int .i64 0]) ∧ RtpO w' wz.heap.size #[.bool false, .int .u8 96, .int .u16 7, .int .u32 0, .int .u32 5, .slice so_ 0 co, .bool false, .int .u16 0, .slice se 0 ce, .slice sp 5 cp, .int .u8 0] srD ∧ WayV w' g srK 9 1 gm [(5, 8, 1)] ∧ Still [g, gm] wz w' from (cO1 wz g gm sb cb hW hv hvo).out.mono fun _ _ h => h.form)
 replace cO2 := fun wz g gm sb cb hW hv hvo => Lib.hid (show Calls Tryz.prog 12 #[.pointer (some ⟨g, 0, none⟩), .slice sb 27 cb] wz fun e w' => ∃ so_ co se ce sp cp, e = .returned (.tuple #[.agg #[.bool false, .int .u8 0, .int .u16 0, .int .u32 0, .int .u32 0, .slice so_ 0 co, .bool false, .int .u16 0, .slice se 0 ce, .slice sp 0 cp, .int .u8 0], .int .i64 0, .int .i64 5]) ∧ RtpO w' wz.heap.size #[.bool false, .int .u8 0, .int .u16 0, .int .u32 0, .int .u32 0, .slice so_ 0 co, .bool false, .int .u16 0, .slice se 0 ce, .slice sp 0 cp, .int .u8 0] rZero ∧ WayV w' g srK 9 1 gm [(5, 8, 1)] ∧ Still [g, gm] wz w' from (cO2 wz g gm sb cb hW hv hvo).out.mono fun _ _ h => h.form)
 have hl1 := srD_seal 65543
 have hl2 := srD_seal 7
 have hne := srD_ne
 generalize srK = K at *
 replace hl1 := Lib.hid hl1
 replace hl2 := Lib.hid hl2
 replace hne := Lib.hid hne
 have kc := fun (w : World) (C : Array Value) (n c : Nat) => Lib.run_convert_bytes_const (P := Tryz.prog) w 35 5 C n c Tryz.underlying35 Tryz.underlying5
 go_enter Tryz.func5, Tryz.ntmps5
 go_wp2_with fail
 refine Calls.mono (cN w).out ?_
 rintro e w1 ⟨ga, ma, rfl, hga, hma, Wa, hb⟩
 have l1 := Wa.hp.lt
 have l2 := Wa.mp.lt
 dsimp only
 go_wp2_with fail
 refine Calls.mono (cN w1).out ?_
 rintro e w2 ⟨gb, mb, rfl, hgb, hmb, Wb, hb2⟩
 have hlt : Hid (ga < gb ∧ ga < mb ∧ ma < gb ∧ ma < mb ∧ gb < w2.heap.size ∧ mb < w2.heap.size) := by
  have := Wb.hp.lt
  have := Wb.mp.lt
  exact ⟨by omega, by omega, by omega, by omega, by omega, by omega⟩
 clear l1 l2
 replace Wa := Lib.hid (Wa.bw hb2)
 have B := Lib.hid (hb.trans hb2)
 have hga1 := Lib.hid hga
 have hma1 := Lib.hid hma
 have hgb1 := Lib.hid (Nat.le_trans hb.size hgb)
 have hmb1 := Lib.hid (Nat.le_trans hb.size hmb)
 clear cN hb hb2 hga hma hgb hmb
 replace Wb := Lib.hid Wb
 dsimp only
 go_upto_region 5 with (fail)
 clear kc
 have B3 : BW w2 (w2.alloc (.cells #[.int .u8 104, .int .u8 101, .int .u8 108, .int .u8 108, .int .u8 111] 5 (5, 6))) := (BW.refl _).alloc
 have P3 := SB_cst w2 #[.int .u8 104, .int .u8 101, .int .u8 108, .int .u8 108, .int .u8 111] 5 (5, 6) 5 [104, 101, 108, 108, 111] rfl (by unfold ByL; decide) (by decide) rfl _ rfl
 have hs3 : (w2.alloc (.cells #[.int .u8 104, .int .u8 101, .int .u8 108, .int .u8 108, .int .u8 111] 5 (5, 6))).heap.size = w2.heap.size + 1 := by simp
 generalize w2.alloc (.cells #[.int .u8 104, .int .u8 101, .int .u8 108, .int .u8 108, .int .u8 111] 5 (5, 6)) = w3 at *
 have B4 : BW w3 (w3.alloc (.cells #[.bool false, .int .u8 96, .int .u16 7, .int .u32 0, .int .u32 5, .slice none 0 0, .bool false, .int .u16 0, .slice none 0 0, .slice (some ⟨w2.heap.size, 0, none⟩) 5 5, .int .u8 0] 37)) := (BW.refl _).alloc
 have Q4 := HpB.new w3 (.cells #[.bool false, .int .u8 96, .int .u16 7, .int .u32 0, .int .u32 5, .slice none 0 0, .bool false, .int .u16 0, .slice none 0 0, .slice (some ⟨w2.heap.size, 0, none⟩) 5 5, .int .u8 0] 37)
 rw [hs3] at Q4
 have P4 := P3.bw B4
 replace Wa := Lib.hid (Wa.out.bw (B3.trans B4))
 replace Wb := Lib.hid (Wb.out.bw (B3.trans B4))
 have hz := Lib.hid B.out.size
 replace B := Lib.hid (B.out.trans (B3.trans B4))
 generalize w3.alloc _ = w4 at *
 generalize hgp : w2.heap.size = gp at *
 generalize hgq : gp + 1 = gq at *
 have hVa : ∀ wz, SB wz (.slice (some ⟨gp, 0, none⟩) 5 5) 5 [104, 101, 108, 108, 111] → Hid (RtpV wz #[.bool false, .int .u8 96, .int .u16 7, .int .u32 0, .int .u32 5, .slice none 0 0, .bool false, .int .u16 0, .slice none 0 0, .slice (some ⟨gp, 0, none⟩) 5 5, .int .u8 0] srD) := fun wz h => ⟨_, _, _, rfl, (NO.nil wz 0 33 .u32).nb, (OB.nil wz 0 5).sb, h⟩
 have hgq' := Lib.hid hgq
 have hown : ∀ k, (Value.slice (some ⟨gp, 0, none⟩) 5 5).ownBlock = some k → k = gp := fun k hk => by
  have : some gp = some k := hk
  exact (Option.some.inj this).symm
 clear hgq hgp hs3 B3 B4 P3
 replace P4 := Lib.hid P4
 replace Q4 := Lib.hid Q4
 replace hVa := Lib.hid hVa
 replace hown := Lib.hid hown
 have hb4 : Hid (gq < w4.heap.size) := Q4.out.lt
 have z0 := hp_cell (Q4.out) 0
 have z1 := hp_cell (Q4.out) 1
 have z2 := hp_cell (Q4.out) 2
 have z3 := hp_cell (Q4.out) 3
 have z4 := hp_cell (Q4.out) 4
 have z5 := hp_cell (Q4.out) 5
 have z6 := hp_cell (Q4.out) 6
 have z7 := hp_cell (Q4.out) 7
 have z8 := hp_cell (Q4.out) 8
 have z9 := hp_cell (Q4.out) 9
 have z10 := hp_cell (Q4.out) 10
 simp only [List.getElem?_toArray, List.getElem?_cons_zero, List.getElem?_cons_succ] at z0 z1 z2 z3 z4 z5 z6 z7 z8 z9 z10
 go_wp2_with fail
 refine Calls.mono (cS1 w4 ga ma _ Wa.out (hVa.out _ P4.out).out).out ?_
 clear z0 z1 z2 z3 z4 z5 z6 z7 z8 z9 z10
 rintro e w5 hp
 obtain ⟨s1, c1, rfl, O1, Wa5, T1⟩ := hp.get (by decide) srD_ok1
 rw [show ((65543 : Int)).toNat = 65543 from rfl, hl1.out] at O1 ⊢
 replace P4 := Lib.hid (P4.out.still T1 (fun k hk hm => by have := hown.out k hk; have := hlt.out; obtain rfl : k = ga := (by simpa using hm); omega))
 replace Q4 := Lib.hid (Q4.out.st T1 (by have := hgq'.out; have := hlt.out; simp; omega))
 replace Wb := Lib.hid (Wb.out.still T1 (by have := hlt.out; simp; omega) (by have := hlt.out; simp; omega))
 replace B := Lib.hid (B.out.stP T1 (fun k hk => by obtain rfl : k = ga := (by simpa using hk); exact hga1.out))
 have hlt5 : Hid (gq < w5.heap.size) := Q4.out.lt
 have hlt4 : Hid (gp + 1 = gq) := hgq'
 replace O1 := Lib.hid O1
 clear hp T1 cS1 Wa
 replace Wa5 := Lib.hid Wa5
 dsimp only
 go_upto_region 6 with (fail)
 have z0 := hp_cell (Q4.out) 0
 have z1 := hp_cell (Q4.out) 1
 have z2 := hp_cell (Q4.out) 2
 have z3 := hp_cell (Q4.out) 3
 have z4 := hp_cell (Q4.out) 4
 have z5 := hp_cell (Q4.out) 5
 have z6 := hp_cell (Q4.out) 6
 have z7 := hp_cell (Q4.out) 7
 have z8 := hp_cell (Q4.out) 8
 have z9 := hp_cell (Q4.out) 9
 have z10 := hp_cell (Q4.out) 10
 simp only [List.getElem?_toArray, List.getElem?_cons_zero, List.getElem?_cons_succ] at z0 z1 z2 z3 z4 z5 z6 z7 z8 z9 z10
 go_wp2_with fail
 refine Calls.mono (cS2 w5 ga ma _ Wa5.out (hVa.out _ P4.out).out).out ?_
 clear z0 z1 z2 z3 z4 z5 z6 z7 z8 z9 z10
 rintro e w6 hp
 obtain ⟨s2, c2, rfl, O2, Wa6, T2⟩ := hp.get (by decide) srD_ok2
 rw [show ((7 : Int)).toNat = 7 from rfl, hl2.out] at O2 ⊢
 replace P4 := Lib.hid (P4.out.still T2 (fun k hk hm => by have := hown.out k hk; have := hlt.out; obtain rfl : k = ga := (by simpa using hm); omega))
 replace Q4 := Lib.hid (Q4.out.st T2 (by have := hgq'.out; have := hlt.out; simp; omega))
 replace Wb := Lib.hid (Wb.out.still T2 (by have := hlt.out; simp; omega) (by have := hlt.out; simp; omega))
 replace B := Lib.hid (B.out.stP T2 (fun k hk => by obtain rfl : k = ga := (by simpa using hk); exact hga1.out))
 replace O1 := Lib.hid (O1.out.still T2 (fun k hk hm => by have := O1.out.ge' k hk; have := hb4.out; have := hlt.out; have := hgq'.out; obtain rfl : k = ga := (by simpa using hm); omega))
 replace O2 := Lib.hid O2
 have hb6 := Lib.hid (Nat.le_trans (Nat.le_of_lt hlt5.out) T2.size)
 clear hp T2 cS2 Wa5 Wa6
 dsimp only
 have hvo : ∀ k, (Value.slice s2 27 c2).ownBlock = some k → gq < k := fun k hk => by have := O2.out.ge' k hk; have := hlt5.out; omega
 replace hvo := Lib.hid hvo
 go_upto_region 7 with (fail)
 go_wp2_with fail
 refine Calls.mono (cO1 w6 gb mb s2 c2 Wb.out O2.out.sb (fun k hk => by have := hvo.out k hk; have := hlt.out; have := hgq'.out; omega)).out ?_
 rintro e w7 ⟨so_, co, se, ce, sp, cp, rfl, Oq, Wb7, T7⟩
 replace P4 := Lib.hid (P4.out.still T7 (fun k hk hm => by have := hown.out k hk; have := hlt.out; simp at hm; omega))
 replace Q4 := Lib.hid (Q4.out.st T7 (by have := hgq'.out; have := hlt.out; simp; omega))
 replace B := Lib.hid (B.out.stP T7 (fun k hk => by have := hgb1.out; have := hmb1.out; simp at hk; rcases hk with rfl | rfl <;> omega))
 replace O1 := Lib.hid (O1.out.still T7 (fun k hk hm => by have := O1.out.ge' k hk; have := hb4.out; have := hlt.out; have := hgq'.out; simp at hm; omega))
 replace O2 := Lib.hid (O2.out.still T7 (fun k hk hm => by have := hvo.out k hk; have := hlt.out; have := hgq'.out; simp at hm; omega))
 have hb6w := hb6
 replace hb6 := Lib.hid (Nat.le_trans hb6.out T7.size)
 clear T7 cO1 Wb
 replace Wb7 := Lib.hid Wb7
 dsimp only
 have BA : BW w7 (w7.alloc (.cells #[.bool false, .int .u8 96, .int .u16 7, .int .u32 0, .int .u32 5, .slice so_ 0 co, .bool false, .int .u16 0, .slice se 0 ce, .slice sp 5 cp, .int .u8 0] 37)) := (BW.refl _).alloc
 have R8 := Lib.hid (HpB.new w7 (.cells #[.bool false, .int .u8 96, .int .u16 7, .int .u32 0, .int .u32 5, .slice so_ 0 co, .bool false, .int .u16 0, .slice se 0 ce, .slice sp 5 cp, .int .u8 0] 37))
 have Oq8 := Lib.hid (Oq.bw BA)
 replace P4 := Lib.hid (P4.out.bw BA)
 replace Q4 := Lib.hid (Q4.out.bw BA)
 replace B := Lib.hid (B.out.trans BA)
 replace O1 := Lib.hid (O1.out.bw BA)
 replace O2 := Lib.hid (O2.out.bw BA)
 replace Wb7 := Lib.hid (Wb7.out.bw BA)
 have hbr : Hid (gq ≤ w7.heap.size) := Lib.hid hb6.out
 clear BA Oq
 go_upto_region 8 with (fail)
 generalize w7.alloc _ = w8 at *
 generalize w7.heap.size = gr at *
 go_wp2_with fail
 refine Calls.mono (cO2 w8 gb mb s2 c2 Wb7.out O2.out.sb (fun k hk => by have := hvo.out k hk; have := hlt.out; have := hgq'.out; omega)).out ?_
 rintro e w9 ⟨so2, co2, se2, ce2, sp2, cp2, rfl, -, -, T9⟩
 replace P4 := Lib.hid (P4.out.still T9 (fun k hk hm => by have := hown.out k hk; have := hlt.out; simp at hm; omega))
 replace Q4 := Lib.hid (Q4.out.st T9 (by have := hgq'.out; have := hlt.out; simp; omega))
 replace R8 := Lib.hid (R8.out.st T9 (by have := hbr.out; have := hgq'.out; have := hlt.out; simp; omega))
 replace B := Lib.hid (B.out.stP T9 (fun k hk => by have := hgb1.out; have := hmb1.out; simp at hk; rcases hk with rfl | rfl <;> omega))
 replace O1 := Lib.hid (O1.out.still T9 (fun k hk hm => by have := O1.out.ge' k hk; have := hb4.out; have := hlt.out; have := hgq'.out; simp at hm; omega))
 replace O2 := Lib.hid (O2.out.still T9 (fun k hk hm => by have := hvo.out k hk; have := hlt.out; have := hgq'.out; simp at hm; omega))
 replace Oq8 := Lib.hid (Oq8.out.still T9 (fun k hk => by have := hb6w.out; have := hlt.out; have := hgq'.out; simp at hk; omega))
 clear T9 cO2 Wb7
 dsimp only
 have BA : BW w9 (w9.alloc (.cells #[.bool false, .int .u8 0, .int .u16 0, .int .u32 0, .int .u32 0, .slice so2 0 co2, .bool false, .int .u16 0, .slice se2 0 ce2, .slice sp2 0 cp2, .int .u8 0] 37)) := (BW.refl _).alloc
 replace P4 := Lib.hid (P4.out.bw BA)
 replace Q4 := Lib.hid (Q4.out.bw BA)
 replace R8 := Lib.hid (R8.out.bw BA)
 replace B := Lib.hid (B.out.trans BA)
 replace O1 := Lib.hid (O1.out.bw BA)
 replace O2 := Lib.hid (O2.out.bw BA)
 replace Oq8 := Lib.hid (Oq8.out.bw BA)
 clear BA
 go_upto_region 9 with (fail)
 generalize w9.alloc _ = wx at *
 generalize w9.heap.size = gs at *
 have C1 := conv_sb O1.out.sb
 have C2 := conv_sb O2.out.sb
 have hne' : ¬ sealB K srD 65543 = sealB K srD 7 := hne.out
 have E1 := bstr_eqb O1.out.sb.2.1 O2.out.sb.2.1
 rw [decide_eq_false hne'] at E1
 clear hne'
 generalize bstr (sealB K srD 65543) = S1 at *
 generalize bstr (sealB K srD 7) = S2 at *
 have z0 := hp_cell (Q4.out) 0
 have z1 := hp_cell (Q4.out) 1
 have z2 := hp_cell (Q4.out) 2
 have z3 := hp_cell (Q4.out) 3
 have z4 := hp_cell (Q4.out) 4
 have z5 := hp_cell (Q4.out) 5
 have z6 := hp_cell (Q4.out) 6
 have z7 := hp_cell (Q4.out) 7
 have z8 := hp_cell (Q4.out) 8
 have z9 := hp_cell (Q4.out) 9
 have z10 := hp_cell (Q4.out) 10
 simp only [List.getElem?_toArray, List.getElem?_cons_zero, List.getElem?_cons_succ] at z0 z1 z2 z3 z4 z5 z6 z7 z8 z9 z10
 have y0 := hp_cell (R8.out) 0
 have y1 := hp_cell (R8.out) 1
 have y2 := hp_cell (R8.out) 2
 have y3 := hp_cell (R8.out) 3
 have y4 := hp_cell (R8.out) 4
 have y5 := hp_cell (R8.out) 5
 have y6 := hp_cell (R8.out) 6
 have y7 := hp_cell (R8.out) 7
 have y8 := hp_cell (R8.out) 8
 have y9 := hp_cell (R8.out) 9
 have y10 := hp_cell (R8.out) 10
 simp only [List.getElem?_toArray, List.getElem?_cons_zero, List.getElem?_cons_succ] at y0 y1 y2 y3 y4 y5 y6 y7 y8 y9 y10
 go_wp2_with fail
 refine Calls.mono (same_true _ _ srD wx (hVa.out _ P4.out).out Oq8.out.v) ?_
 rintro e wy ⟨rfl, hb⟩
 clear C1 C2
 clear z0 z1 z2 z3 z4 z5 z6 z7 z8 z9 z10 y0 y1 y2 y3 y4 y5 y6 y7 y8 y9 y10
 replace B := Lib.hid (B.out.trans hb)
 clear hb
 dsimp only
 go_wp2_with fail
 go_ret
 exact ⟨rfl, B.out⟩
end Go.Proofs.YtikmhlbpefednaaGreat
