/- Packets sealed and opened, in plain words. Nothing of the program; no condition. -/
import Derived.Test.YtikmhlbpefednaaSrJ
namespace Go.Proofs.Ytikmhlbpefednaa
open Go.RowKit

theorem bytes_first (d : RtpD) : (bytesN d).getD 0 0 = firstB d := rfl
theorem first64 (d : RtpD) (h : mayN d = true) : firstB d / 64 = 2 := by
  have hm := of_decide_eq_true h
  unfold firstB; split <;> split <;> omega
theorem bytes_seq (d : RtpD) (w : RtpWf d) : nm (bytesN d) 2 2 = d.seq := nmAt (A := [firstB d, secondN d]) rfl w.seq
theorem bytes_src (d : RtpD) (w : RtpWf d) : nm (bytesN d) 8 4 = d.source := by
  have := nmAt (A := [firstB d, secondN d] ++ putB 2 d.seq ++ putB 4 d.stamp) (B := othN d.others ++ (extN d ++ (d.payload ++ padN d.pad))) (a := 8) (n := 4) (x := d.source) (by simp [putB_len]) w.source
  rw [← this]; simp only [bytesN, headN, List.append_assoc]

theorem hdr_sealed (K : List Nat) (d : RtpD) (i : Nat) (h : mayN d = true) : hdrN (spinN K (hdrN (bytesN d)).1 d.source i (bytesN d)) = hdrN (bytesN d) := by
  have hh : (hdrN (bytesN d)).2 = true := by rw [hdr_bytes d h]
  have hg := hdrN_ge _ hh
  exact hdrN_same _ _ (spinN_len K _ _ _ _ hg.2).symm hh (spinN_take K _ _ _ _ hg.2)
theorem getD_app (A B : List Nat) (h : 0 < A.length) : (A ++ B).getD 0 0 = A.getD 0 0 := by
  rw [List.getD_eq_getElem?_getD, List.getD_eq_getElem?_getD, List.getElem?_append_left h]
theorem peek_sealed (K : List Nat) (d : RtpD) (i : Nat) (w : RtpWf d) (h : mayN d = true) (hl : (bytesN d).length ≤ 1190) : peekN (sealB K d i) = (d.source, d.seq, 0) := by
  have hh : (hdrN (bytesN d)).2 = true := by rw [hdr_bytes d h]
  have hg := hdrN_ge _ hh
  have hs := hdr_sealed K d i h
  have hL := sealB_len K d i h
  have hb := spinN_len K (hdrN (bytesN d)).1 d.source i (bytesN d) hg.2
  have ht : (sealB K d i).take ((sealB K d i).length - 10) = spinN K (hdrN (bytesN d)).1 d.source i (bytesN d) := by
    rw [hL, Nat.add_sub_cancel]
    unfold sealB
    exact takeAt hb
  have hk := spinN_take K (hdrN (bytesN d)).1 d.source i (bytesN d) hg.2
  have hn : ∀ a n, a + n ≤ 12 → nm (sealB K d i) a n = nm (bytesN d) a n := fun a n ha => by
    unfold sealB
    rw [nmIn (by omega), ← nm_take _ (hdrN (bytesN d)).1 a n (by omega), hk, nm_take _ _ _ _ (by omega)]
  have h0 : (sealB K d i).getD 0 0 = firstB d := by
    unfold sealB
    rw [getD_app _ _ (by omega), ← getD_take _ (hdrN (bytesN d)).1 (by omega), hk, getD_take _ _ (by omega)]
    exact bytes_first d
  unfold peekN
  rw [ht, hs, hh, h0, hL, if_neg (by omega), if_neg (by omega), if_neg (by rw [first64 d h]; simp), if_neg (by simp), hn 8 4 (by decide), hn 2 2 (by decide), bytes_src d w, bytes_seq d w]

theorem getW_nil (s : Nat) : getW [] s = (0, 0) := rfl
theorem idxN_nil (s : Nat) (hs : s < 65536) : idxN ((((0 : Nat) : Int)) - 1) s = s := by
  unfold idxN
  split <;> (try omega) <;> simp <;> omega
theorem fresh_nil (src seq : Nat) (hq : seq < 65536) : freshE 9 0 [] src seq = ((seq : Int), 0) := by
  unfold freshE
  rw [getW_nil]
  dsimp only
  rw [if_neg (by decide), if_neg (fun h => by have := h.2; simp at this), idxN_nil _ hq, if_neg (by omega), wFresh_new, if_neg (by simp)]
theorem open_first (K : List Nat) (d : RtpD) (w : RtpWf d) (h : mayN d = true) (hl : (bytesN d).length ≤ 1190) :
    openN K 9 0 [] (sealB K d d.seq) = ((0, (d.seq : Int), d), 1, [(d.source, d.seq + 1, 1)]) := by
  have hh : (hdrN (bytesN d)).2 = true := by rw [hdr_bytes d h]
  have hg := hdrN_ge _ hh
  have hL := sealB_len K d d.seq h
  have hb := spinN_len K (hdrN (bytesN d)).1 d.source d.seq (bytesN d) hg.2
  have ht : (sealB K d d.seq).take ((sealB K d d.seq).length - 10) = spinN K (hdrN (bytesN d)).1 d.source d.seq (bytesN d) := by
    rw [hL, Nat.add_sub_cancel]
    unfold sealB
    exact takeAt hb
  have hd : (sealB K d d.seq).drop ((sealB K d d.seq).length - 10) = tagN K (spinN K (hdrN (bytesN d)).1 d.source d.seq (bytesN d)) d.seq := by
    rw [hL, Nat.add_sub_cancel]
    unfold sealB
    exact dropAt hb
  have hs := hdr_sealed K d d.seq h
  unfold openN
  rw [peek_sealed K d d.seq w h hl]
  dsimp only
  rw [fresh_nil _ _ w.seq, ht, hd, hs]
  dsimp only
  rw [Int.toNat_natCast, if_neg (by simp), if_neg (by simp), if_neg (by simp), spinN_twice K _ _ _ _ hg.2, read_write d w h (by omega), if_neg (by simp), getW_nil, wMark_new]
  rfl
theorem getW_one (s : Nat) (v : Nat × Nat) : getW [(s, v)] s = v := by simp [getW]
theorem idxN_same (s : Nat) (hs : s < 65536) : idxN (((s + 1 : Nat) : Int) - 1) s = s := by
  unfold idxN
  split <;> (try omega) <;> simp <;> omega
theorem open_again (K : List Nat) (d : RtpD) (w : RtpWf d) (h : mayN d = true) (hl : (bytesN d).length ≤ 1190) :
    openN K 9 1 [(d.source, d.seq + 1, 1)] (sealB K d d.seq) = ((5, 0, rZero), 1, [(d.source, d.seq + 1, 1)]) := by
  have hf : freshE 9 1 [(d.source, d.seq + 1, 1)] d.source d.seq = (0, 5) := by
    unfold freshE
    rw [getW_one]
    dsimp only
    rw [if_neg (by decide), if_neg (fun h => by have := h.2; simp at this), idxN_same _ w.seq, if_neg (by have := w.seq; omega), wFresh_old, if_pos rfl]
  unfold openN
  rw [peek_sealed K d d.seq w h hl]
  dsimp only
  rw [hf, if_neg (by simp), if_pos (by simp)]
theorem open_other (K b : List Nat) (hb : ByL b) (h : b.drop (b.length - 10) ≠ tagN K (b.take (b.length - 10)) 0) :
    (openN K 9 0 [] b).1.1 ≠ 0 ∧ (openN K 9 0 [] b).2 = (0, []) := by
  unfold openN
  by_cases h1 : (peekN b).2.2 ≠ 0
  · rw [if_pos h1]; exact ⟨h1, rfl⟩
  rw [if_neg h1]
  have hp := peek_in (Decidable.not_not.1 h1)
  have hsq : (peekN b).2.1 < 65536 := by rw [hp.2.2.2]; exact nm_lt b hb 2 2
  rw [fresh_nil _ _ hsq]
  dsimp only
  rw [if_neg (by simp), Int.toNat_natCast]
  have e : ∀ c, tagN K c (peekN b).2.1 = tagN K c 0 := fun c => by unfold tagN; rw [show (peekN b).2.1 / 65536 = 0 / 65536 by omega]
  rw [e, if_pos h]
  exact ⟨by simp, rfl⟩
end Go.Proofs.Ytikmhlbpefednaa
