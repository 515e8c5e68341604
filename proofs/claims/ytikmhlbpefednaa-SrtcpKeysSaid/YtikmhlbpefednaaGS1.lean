/- Packets sealed, in plain words: headers, what is seen of bytes, windows, ciphered bytes and tags. Nothing of the program; no condition. srtp: headers; octets.Num where there are too few bytes. No condition but the sizes'. window: High, Fresh, Mark; seqs.Seq, Index where nothing was yet. No condition but the sizes'. srtp.Way: what it is in memory; tags; bytes turned. No condition but the sizes'. srtp.Way's turn: what is behind a header, ciphered. No condition but the sizes'. -/
import Derived.Test.YtikmhlbpefednaaGRa
import Derived.Test.YtikmhlbpefednaaGMc
import Derived.Test.YtikmhlbpefednaaGTa
import Derived.Test.YtikmhlbpefednaaAesI
import Derived.Test.YtikmhlbpefednaaGW6
import Derived.Test.YtikmhlbpefednaaGEl
import Derived.Test.YtikmhlbpefednaaGW7
import Derived.Test.YtikmhlbpefednaaGTb
import Derived.Test.YtikmhlbpefednaaGAr
namespace Go.Proofs.Ytikmhlbpefednaa

/-- How many bytes a header has; are they all there? -/
def hdrN (b : List Nat) : Nat × Bool :=
  let n := 12 + 4 * (b.getD 0 0 % 16)
  if b.getD 0 0 / 16 % 2 = 1 then
    if n + 4 ≤ b.length then (n + 4 + 4 * nm b (n + 2) 2, decide (n + 4 + 4 * nm b (n + 2) 2 ≤ b.length)) else (0, false)
  else (n, decide (n ≤ b.length))
/-- What is seen of bytes: a source, a number, an error. -/
def peekN (b : List Nat) : Nat × Nat × Nat :=
  if 1200 < b.length then (0, 0, 3)
  else if b.length < 22 then (0, 0, 2)
  else if b.getD 0 0 / 64 ≠ 2 then (0, 0, 3)
  else if (hdrN (b.take (b.length - 10))).2 = false then (0, 0, 2)
  else (nm b 8 4, nm b 2 2, 0)
def spinN (K : List Nat) (head src : Nat) (i : Nat) (b : List Nat) : List Nat :=
  b.take head ++ cipN (wordsN (K.take 16)) (numB (firstN ((K.drop 36).take 14) src i)) (b.drop head)
def tagN (K : List Nat) (b : List Nat) (i : Nat) : List Nat := (hmacN ((K.drop 16).take 20) (b ++ putB 4 (i / 65536))).take 10
theorem spinN_len (K : List Nat) (h s i : Nat) (b : List Nat) (hb : h ≤ b.length) : (spinN K h s i b).length = b.length := by
  simp only [spinN, List.length_append, List.length_take, cipN_len, List.length_drop]
  omega
theorem spinN_take (K : List Nat) (h s i : Nat) (b : List Nat) (hb : h ≤ b.length) : (spinN K h s i b).take h = b.take h := by
  unfold spinN
  rw [List.take_left' (by rw [List.length_take]; omega)]
theorem spinN_twice (K : List Nat) (h s i : Nat) (b : List Nat) (hb : h ≤ b.length) : spinN K h s i (spinN K h s i b) = b := by
  have h1 : (b.take h).length = h := by rw [List.length_take]; omega
  have e : spinN K h s i (spinN K h s i b) = (spinN K h s i b).take h ++ cipN (wordsN (K.take 16)) (numB (firstN ((K.drop 36).take 14) s i)) ((spinN K h s i b).drop h) := rfl
  rw [e, spinN_take K h s i b hb]
  have h2 : (spinN K h s i b).drop h = cipN (wordsN (K.take 16)) (numB (firstN ((K.drop 36).take 14) s i)) (b.drop h) := by
    unfold spinN
    rw [List.drop_left' h1]
  rw [h2, cipN_twice, List.take_append_drop]
theorem tagN_len (K b : List Nat) (i : Nat) : (tagN K b i).length = 10 := by
  unfold tagN
  rw [List.length_take, hmac_len]
  rfl
theorem nm_take (b : List Nat) (h a n : Nat) (ha : a + n ≤ h) : nm (b.take h) a n = nm b a n := by
  unfold nm
  rw [List.drop_take, List.take_take, Nat.min_eq_left (by omega)]
theorem getD_take (b : List Nat) (h : Nat) (h0 : 0 < h) : (b.take h).getD 0 0 = b.getD 0 0 := by
  rw [List.getD_eq_getElem?_getD, List.getD_eq_getElem?_getD, List.getElem?_take_of_lt h0]
/-- A header is known by its own bytes and the length. -/
theorem hdrN_same (b c : List Nat) (hl : b.length = c.length) (hh : (hdrN b).2 = true) (hc : c.take (hdrN b).1 = b.take (hdrN b).1) : hdrN c = hdrN b := by
  have h12 : 12 ≤ (hdrN b).1 := by
    revert hh
    unfold hdrN
    dsimp only
    split
    · split
      · intro _; dsimp only; omega
      · intro h; cases h
    · intro _; dsimp only; omega
  have e0 : c.getD 0 0 = b.getD 0 0 := by
    rw [← getD_take c _ (by omega : 0 < (hdrN b).1), hc, getD_take b _ (by omega)]
  revert hh hc
  unfold hdrN
  dsimp only
  rw [e0, hl]
  split
  · split
    · intro _ hc
      dsimp only at hc
      have e1 : nm c (12 + 4 * (b.getD 0 0 % 16) + 2) 2 = nm b (12 + 4 * (b.getD 0 0 % 16) + 2) 2 := by
        rw [← nm_take c _ _ _ (by omega : 12 + 4 * (b.getD 0 0 % 16) + 2 + 2 ≤ 12 + 4 * (b.getD 0 0 % 16) + 4 + 4 * nm b (12 + 4 * (b.getD 0 0 % 16) + 2) 2), hc, nm_take b _ _ _ (by omega)]
      rw [e1]
    · intro _ _; rfl
  · intro _ _; rfl
theorem hdrN_ge (b : List Nat) (hh : (hdrN b).2 = true) : 12 ≤ (hdrN b).1 ∧ (hdrN b).1 ≤ b.length := by
  revert hh
  unfold hdrN
  dsimp only
  split
  · split
    · intro h; dsimp only at h ⊢; have := of_decide_eq_true h; omega
    · intro h; cases h
  · intro h; dsimp only at h ⊢; have := of_decide_eq_true h; omega

/-- A window: the highest index and one (0: none), bits of those below. -/
def wFresh (nx bits : Nat) (i : Int) : Bool := decide (0 ≤ i) && (decide ((nx : Int) - 1 - i < 0) || (decide ((nx : Int) - 1 - i < 64) && !bits.testBit ((nx : Int) - 1 - i).toNat))
def wMark (nx bits : Nat) (i : Nat) : Nat × Nat := if i < nx then (nx, bits ||| 2 ^ (nx - 1 - i)) else (i + 1, (bits * 2 ^ (i + 1 - nx)) % 18446744073709551616 ||| 1)
theorem wFresh_new (bits i : Nat) : wFresh 0 bits i = true := by
  unfold wFresh
  rw [decide_eq_true (by omega), decide_eq_true (by omega)]
  rfl
theorem wMark_new (i : Nat) : wMark 0 0 i = (i + 1, 1) := by simp [wMark]
theorem wFresh_old (i : Nat) : wFresh (i + 1) 1 i = false := by
  unfold wFresh
  rw [decide_eq_false (p := ((i + 1 : Nat) : Int) - 1 - (i : Int) < 0) (by omega)]
  have : (((i + 1 : Nat) : Int) - 1 - (i : Int)).toNat = 0 := by omega
  rw [this]
  simp
end Go.Proofs.Ytikmhlbpefednaa

namespace Go.Proofs.Ytikmhlbpefednaa
open Go.RowKit

set_option maxRecDepth 100000 in
set_option maxHeartbeats 8000000 in
theorem num_lack (v : Value) (len : Nat) (l : List Nat) (at_ : Nat) (a : Int) (hlen : len ≤ 1000000000000) (hat : at_ ≤ 1000000) (hno : len < at_ + 2) (ha : a = at_) (w : World) (hv : SB w v len l) :
    Calls Try.prog 23 #[v, .int .i64 a, .int .i64 2] w fun e w' => e = .returned (.tuple #[.int .u64 0, .bool false]) ∧ w = w' := by
  obtain ⟨sa, cap, rfl, hcap, hm⟩ := hv.len
  subst ha
  clear hv
  have d0 : decide ((at_ : Int) < 0) = false := by simp
  by_cases h : len < at_
  · have d1 : decide ((len : Int) < (at_ : Int)) = true := by simp; omega
    go_enter Try.func23, Try.ntmps23
    go_wp2_with fail
    go_ret2
    exact ⟨rfl, rfl⟩
  · have d1 : decide ((len : Int) < (at_ : Int)) = false := by simp; omega
    have d2 : decide ((len : Int) - (at_ : Int) < 2) = true := by simp; omega
    go_enter Try.func23, Try.ntmps23
    go_wp2_with fail
    go_ret2
    exact ⟨rfl, rfl⟩
theorem bit16 (b : Nat) (hb : b < 256) : bits .and .u8 (b : Int) 16 = ((b / 16 % 2 * 16 : Nat) : Int) := by
  refine (u8_and_nat b 16 hb (by decide)).trans ?_
  rw [show (16 : Nat) = 2 ^ 4 from rfl, nat_bit 4 b]
theorem low15 (b : Nat) (hb : b < 256) : bits .and .u8 (b : Int) 15 = ((b % 16 : Nat) : Int) := by
  refine (u8_and_nat b 15 hb (by decide)).trans ?_
  rw [nat_mask4]
set_option maxRecDepth 100000 in
set_option maxHeartbeats 8000000 in
theorem header_ok (v : Value) (n : Nat) (b : List Nat) (h1 : 1 ≤ n) (hn : n ≤ 1000000000) (w : World) (hv : SB w v n b) :
    Calls Try.prog 22 #[v] w fun e w' => e = .returned (.tuple #[.int .i64 ((hdrN b).1 : Nat), .bool (hdrN b).2]) ∧ w = w' := by
  have hbl := hv.1
  have hby := hv.2.1
  obtain ⟨q, o, cap, rfl, hcap, hm, hq, hcell⟩ := hv.form (by omega)
  have z0 := hcell 0 (by omega)
  rw [Nat.add_zero] at z0
  have hb0 : b.getD 0 0 < 256 := by
    rw [List.getD_eq_getElem?_getD, List.getElem?_eq_getElem (by omega)]
    exact hby _ (List.getElem_mem _)
  have hlow := low15 (b.getD 0 0) hb0
  have hbit := bit16 (b.getD 0 0) hb0
  have cn := fun (h : 12 + 4 * (b.getD 0 0 % 16) + 4 ≤ n) => Lib.hid (num_ok _ n b (12 + 4 * (b.getD 0 0 % 16) + 2) 2 (12 + 4 * ((b.getD 0 0 % 16 : Nat) : Int) + 2) 2 (by omega) (by omega) (by omega) (by push_cast; rfl) rfl w hv)
  have cl := fun (h : ¬ 12 + 4 * (b.getD 0 0 % 16) + 4 ≤ n) => Lib.hid (num_lack _ n b (12 + 4 * (b.getD 0 0 % 16) + 2) (12 + 4 * ((b.getD 0 0 % 16 : Nat) : Int) + 2) (by omega) (by omega) (by omega) (by push_cast; rfl) w hv)
  have hnm : nm b (12 + 4 * (b.getD 0 0 % 16) + 2) 2 < 65536 := nm_lt b hby _ 2
  have hH : hdrN b = if b.getD 0 0 / 16 % 2 = 1 then (if 12 + 4 * (b.getD 0 0 % 16) + 4 ≤ n then (12 + 4 * (b.getD 0 0 % 16) + 4 + 4 * nm b (12 + 4 * (b.getD 0 0 % 16) + 2) 2, decide (12 + 4 * (b.getD 0 0 % 16) + 4 + 4 * nm b (12 + 4 * (b.getD 0 0 % 16) + 2) 2 ≤ n)) else (0, false)) else (12 + 4 * (b.getD 0 0 % 16), decide (12 + 4 * (b.getD 0 0 % 16) ≤ n)) := by
    rw [← hbl]
    rfl
  change ∀ h, Hid (Calls _ _ _ _ fun e w' => e = .returned (.tuple #[.int .u64 (nm b (12 + 4 * (b.getD 0 0 % 16) + 2) 2 : Nat), .bool true]) ∧ w = w') at cn
  have hk : b.getD 0 0 % 16 ≤ 15 := by omega
  have he : b.getD 0 0 / 16 % 2 = 0 ∨ b.getD 0 0 / 16 % 2 = 1 := by omega
  generalize hdrN b = R at *
  generalize nm b (12 + 4 * (b.getD 0 0 % 16) + 2) 2 = x at *
  generalize b.getD 0 0 % 16 = k at *
  generalize b.getD 0 0 / 16 % 2 = e at *
  generalize b.getD 0 0 = b0 at *
  clear hcell hv hby hbl hq hb0
  replace cn := Lib.hid cn
  replace cl := Lib.hid cl
  rcases he with rfl | rfl
  · rw [if_neg (by decide)] at hH
    subst hH
    have d1 : decide ((12 : Int) + 4 * (k : Int) ≤ (n : Int)) = decide (12 + 4 * k ≤ n) := by simp only [decide_eq_decide]; omega
    have hbit' : bits .and .u8 (b0 : Int) 16 = 0 := by rw [hbit]; rfl
    clear hbit
    go_enter Try.func22, Try.ntmps22
    go_wp2_with fail
    go_ret2
    refine ⟨?_, rfl⟩
    simp
    try omega
  · rw [if_pos rfl] at hH
    have hbit' : bits .and .u8 (b0 : Int) 16 = 16 := by rw [hbit]; rfl
    clear hbit
    by_cases h4 : 12 + 4 * k + 4 ≤ n
    · rw [if_pos h4] at hH
      subst hH
      have c := cn.out h4
      clear cn cl
      replace c := Lib.hid c
      have hx : (x : Int) ≤ 65535 := by omega
      have d1 : decide ((12 : Int) + 4 * (k : Int) + (4 + 4 * (x : Int)) ≤ (n : Int)) = decide (12 + 4 * k + 4 + 4 * x ≤ n) := by simp only [decide_eq_decide]; omega
      go_enter Try.func22, Try.ntmps22
      go_wp2_with fail
      refine Calls.mono c.out ?_
      rintro e w' ⟨rfl, rfl⟩
      dsimp only
      go_wp2_with fail
      go_ret2
      refine ⟨?_, rfl⟩
      simp
      try omega
    · rw [if_neg h4] at hH
      subst hH
      have c := cl.out h4
      clear cn cl
      replace c := Lib.hid c
      go_enter Try.func22, Try.ntmps22
      go_wp2_with fail
      refine Calls.mono c.out ?_
      rintro e w' ⟨rfl, rfl⟩
      dsimp only
      go_wp2_with fail
      go_ret2
      exact ⟨rfl, rfl⟩
end Go.Proofs.Ytikmhlbpefednaa

namespace Go.Proofs.Ytikmhlbpefednaa
open Go.RowKit

def WinV (w : World) (p nx bs : Nat) : Prop := HpB w p (.cells #[.int .i64 (nx : Nat), .int .u64 (bs : Nat)] 89)
theorem bit64 (b q : Nat) (hb : b < 18446744073709551616) : (bits .and .u64 ((b : Int) / 2 ^ q) 1 == 0) = !b.testBit q := by
  have e : ((b : Int) / 2 ^ q) = ((b / 2 ^ q : Nat) : Int) := by push_cast; rfl
  have hlt : b / 2 ^ q < 18446744073709551616 := Nat.lt_of_le_of_lt (Nat.div_le_self _ _) hb
  have e2 := u64_and_nat (b / 2 ^ q) 1 hlt (by decide)
  rw [nat_mask1] at e2
  rw [e, show (1 : Int) = ((1 : Nat) : Int) from rfl, e2, Nat.testBit_eq_decide_div_mod_eq]
  generalize b / 2 ^ q = x
  have : x % 2 = 0 ∨ x % 2 = 1 := by omega
  rcases this with h | h <;> rw [h] <;> rfl
set_option maxRecDepth 100000 in
set_option maxHeartbeats 8000000 in
theorem seq_ok (i : Int) (w : World) : Calls Try.prog 29 #[.int .i64 i] w fun e w' => e = .returned (.int .u16 (IntKind.u16.wrap i)) ∧ w = w' := by
  go_enter Try.func29, Try.ntmps29
  go_wp2_with fail
  go_ret
  exact ⟨rfl, rfl⟩
set_option maxRecDepth 100000 in
set_option maxHeartbeats 8000000 in
theorem whigh_ok (p nx bs : Nat) (hn : nx ≤ 4611686018427387904) (w : World) (h : WinV w p nx bs) :
    Calls Try.prog 54 #[.pointer (some ⟨p, 0, none⟩)] w fun e w' => e = .returned (.int .i64 ((nx : Int) - 1)) ∧ w = w' := by
  have z0 := (hp_cell h 0).trans (show _ = some (.int .i64 (nx : Nat)) from rfl)
  clear h
  go_enter Try.func54, Try.ntmps54
  go_wp2_with fail
  go_ret
  exact ⟨rfl, rfl⟩
set_option maxRecDepth 100000 in
set_option maxHeartbeats 8000000 in
theorem wbelow_ok (p nx bs : Nat) (i : Int) (hn : nx ≤ 4611686018427387904) (hi : -2305843009213693952 ≤ i ∧ i ≤ 2305843009213693952) (w : World) (h : WinV w p nx bs) :
    Calls Try.prog 58 #[.pointer (some ⟨p, 0, none⟩), .int .i64 i] w fun e w' => e = .returned (.int .i64 ((nx : Int) - 1 - i)) ∧ w = w' := by
  have c := Lib.hid (whigh_ok p nx bs hn w h)
  clear h
  go_enter Try.func58, Try.ntmps58
  go_wp2_with fail
  refine Calls.mono c.out ?_
  rintro e w' ⟨rfl, rfl⟩
  dsimp only
  go_wp2_with fail
  go_ret
  exact ⟨rfl, rfl⟩
set_option maxRecDepth 100000 in
set_option maxHeartbeats 8000000 in
theorem wfresh_ok (p nx bs : Nat) (i : Int) (hn : nx ≤ 4611686018427387904) (hb : bs < 18446744073709551616) (hi : -2305843009213693952 ≤ i ∧ i ≤ 2305843009213693952) (w : World) (h : WinV w p nx bs) :
    Calls Try.prog 55 #[.pointer (some ⟨p, 0, none⟩), .int .i64 i] w fun e w' => e = .returned (.bool (wFresh nx bs i)) ∧ w = w' := by
  by_cases h0 : i < 0
  · have hR : wFresh nx bs i = false := by unfold wFresh; rw [decide_eq_false (by omega)]; rfl
    have d0 : decide (i < 0) = true := by simpa using h0
    replace hR := Lib.hid hR
    replace h := Lib.hid h
    go_enter Try.func55, Try.ntmps55
    go_wp2_with fail
    go_ret
    exact ⟨by rw [hR.out]; rfl, rfl⟩
  have d0 : decide (i < 0) = false := by simpa using h0
  have c := Lib.hid (wbelow_ok p nx bs i hn hi w h)
  have z1 := (hp_cell h 1).trans (show _ = some (.int .u64 (bs : Nat)) from rfl)
  by_cases hk : (nx : Int) - 1 - i < 0
  · have hR : wFresh nx bs i = true := by unfold wFresh; rw [decide_eq_true (by omega), decide_eq_true hk]; rfl
    generalize (nx : Int) - 1 - i = k at *
    have d1 : decide (k < 0) = true := by simpa using hk
    replace hR := Lib.hid hR
    replace h := Lib.hid h
    go_enter Try.func55, Try.ntmps55
    go_wp2_with fail
    refine Calls.mono c.out ?_
    rintro e w' ⟨rfl, rfl⟩
    dsimp only
    go_wp2_with fail
    go_ret
    exact ⟨by rw [hR.out]; rfl, rfl⟩
  by_cases h64 : (nx : Int) - 1 - i < 64
  · obtain ⟨kk, hkk⟩ : ∃ kk : Nat, (nx : Int) - 1 - i = (kk : Nat) := ⟨((nx : Int) - 1 - i).toNat, by omega⟩
    have hR : wFresh nx bs i = !bs.testBit kk := by
      unfold wFresh
      rw [decide_eq_true (by omega), decide_eq_false hk, decide_eq_true h64, hkk]
      simp
    rw [hkk] at c
    have hk64 : kk < 64 := by omega
    have hbt := bit64 bs kk hb
    generalize bs.testBit kk = r at *
    have d1 : decide ((kk : Int) < 0) = false := by simp
    have d2 : decide ((kk : Int) < 64) = true := by simp; omega
    replace hR := Lib.hid hR
    replace h := Lib.hid h
    clear hkk h64 hk
    go_enter Try.func55, Try.ntmps55
    go_wp2_with fail
    refine Calls.mono c.out ?_
    rintro e w' ⟨rfl, rfl⟩
    dsimp only
    go_wp2_with fail
    go_ret
    exact ⟨by rw [hR.out]; rfl, rfl⟩
  · have hR : wFresh nx bs i = false := by unfold wFresh; rw [decide_eq_true (by omega), decide_eq_false hk, decide_eq_false h64]; rfl
    generalize (nx : Int) - 1 - i = k at *
    have d1 : decide (k < 0) = false := by simpa using hk
    have d2 : decide (k < 64) = false := by simpa using h64
    replace hR := Lib.hid hR
    replace h := Lib.hid h
    go_enter Try.func55, Try.ntmps55
    go_wp2_with fail
    refine Calls.mono c.out ?_
    rintro e w' ⟨rfl, rfl⟩
    dsimp only
    go_wp2_with fail
    go_ret
    exact ⟨by rw [hR.out]; rfl, rfl⟩
set_option maxRecDepth 100000 in
set_option maxHeartbeats 8000000 in
theorem idx_new (s : Int) (h : Int) (hh : h < 0) (w : World) (hs : 0 ≤ s ∧ s ≤ 65535) :
    Calls Try.prog 53 #[.int .i64 h, .int .u16 s] w fun e w' => e = .returned (.int .i64 s) ∧ w = w' := by
  have d : decide (h < 0) = true := by simpa using hh
  go_enter Try.func53, Try.ntmps53
  go_wp2_with fail
  go_ret
  exact ⟨rfl, rfl⟩
end Go.Proofs.Ytikmhlbpefednaa

namespace Go.Proofs.Ytikmhlbpefednaa
open Go.RowKit

/-- Sources and their windows, as entries. -/
def winS (M : List (Nat × Nat × Nat)) : List (Value × Value) := M.map fun p => (.int .u32 (p.1 : Nat), .agg #[.int .i64 (p.2.1 : Nat), .int .u64 (p.2.2 : Nat)])
def wayC (K : List Nat) (lim : Int) (used gm : Nat) : Array Value := ivA .u8 K ++ #[.int .i64 lim, .int .i64 (used : Nat), .map (some gm)]
structure WayV (w : World) (g : Nat) (K : List Nat) (lim : Int) (used gm : Nat) (M : List (Nat × Nat × Nat)) : Prop where
  hp : HpB w g (.cells (wayC K lim used gm) 83)
  len : K.length = 50
  byt : ByL K
  mp : MapIn w gm (winS M)
theorem WayV.bw {w w' : World} {g : Nat} {K : List Nat} {lim : Int} {used gm : Nat} {M : List (Nat × Nat × Nat)} (h : WayV w g K lim used gm M) (hb : BW w w') : WayV w' g K lim used gm M := ⟨h.hp.bw hb, h.len, h.byt, h.mp.still (hb.still []) (by simp)⟩
theorem WayV.still {w w' : World} {g : Nat} {K : List Nat} {lim : Int} {used gm : Nat} {M : List (Nat × Nat × Nat)} (h : WayV w g K lim used gm M) {S : List Nat} (hs : Still S w w') (h1 : g ∉ S) (h2 : gm ∉ S) : WayV w' g K lim used gm M := ⟨h.hp.st hs h1, h.len, h.byt, h.mp.still hs h2⟩
theorem WayV.ne {w : World} {g : Nat} {K : List Nat} {lim : Int} {used gm : Nat} {M : List (Nat × Nat × Nat)} (h : WayV w g K lim used gm M) : g ≠ gm := by
  rintro rfl
  obtain ⟨es, c, hm, _⟩ := h.mp
  have := h.hp
  unfold HpB at this
  rw [hm] at this
  cases this
theorem wayC_get {K : List Nat} {lim : Int} {used gm : Nat} (hl : K.length = 50) (i : Nat) (hi : i < 50) : (wayC K lim used gm)[i]? = some (.int .u8 (K.getD i 0 : Nat)) := by
  unfold wayC
  rw [Array.getElem?_append_left (by rw [ivA_size]; omega)]
  exact ivA_get _ _ _ (by omega)
theorem wayC_at {K : List Nat} {lim : Int} {used gm : Nat} (hl : K.length = 50) (i : Nat) : (wayC K lim used gm)[50 + i]? = (#[.int .i64 lim, .int .i64 (used : Nat), .map (some gm)] : Array Value)[i]? := by
  unfold wayC
  rw [Array.getElem?_append_right (by rw [ivA_size]; omega), ivA_size, hl]
  congr 1
  omega
theorem WayV.lim {w : World} {g : Nat} {K : List Nat} {lim : Int} {used gm : Nat} {M : List (Nat × Nat × Nat)} (h : WayV w g K lim used gm M) : w.cell? ⟨g, 50, none⟩ = some (.int .i64 lim) := (hp_cell h.hp 50).trans (wayC_at h.len 0)
theorem WayV.used {w : World} {g : Nat} {K : List Nat} {lim : Int} {used gm : Nat} {M : List (Nat × Nat × Nat)} (h : WayV w g K lim used gm M) : w.cell? ⟨g, 51, none⟩ = some (.int .i64 (used : Nat)) := (hp_cell h.hp 51).trans (wayC_at h.len 1)
theorem WayV.map {w : World} {g : Nat} {K : List Nat} {lim : Int} {used gm : Nat} {M : List (Nat × Nat × Nat)} (h : WayV w g K lim used gm M) : w.cell? ⟨g, 52, none⟩ = some (.map (some gm)) := (hp_cell h.hp 52).trans (wayC_at h.len 2)
theorem WayV.range {w : World} {g : Nat} {K : List Nat} {lim : Int} {used gm : Nat} {M : List (Nat × Nat × Nat)} (h : WayV w g K lim used gm M) (off n : Nat) (hn : off + n ≤ 50) : w.rangeAt g off (bvs (mid K off n)) := fun j v hv => by
  have hl := mid_len K off n (by rw [h.len]; exact hn)
  have hj : j < n := by
    rcases Nat.lt_or_ge j n with h | h
    · exact h
    · rw [List.getElem?_eq_none (by rw [bvs_len, hl]; omega)] at hv; cases hv
  rw [(hp_cell h.hp (off + j)).trans (wayC_get h.len (off + j) (by omega))]
  rw [bvs_get _ _ (by rw [hl]; omega)] at hv
  rw [← hv]
  simp [mid, List.getD_eq_getElem?_getD, List.getElem?_take, hj]
theorem WayV.auth {w : World} {g : Nat} {K : List Nat} {lim : Int} {used gm : Nat} {M : List (Nat × Nat × Nat)} (h : WayV w g K lim used gm M) : SB w (.slice (some ⟨g, 16, none⟩) 20 20) 20 (mid K 16 20) := by
  have hl := mid_len K 16 20 (by rw [h.len]; omega)
  refine SB.mk' hl ((h.byt.drop _).take _) (Nat.le_refl _) (by decide) h.hp.lt fun j hj => ?_
  have := h.range 16 20 (by omega) j (.int .u8 ((mid K 16 20).getD j 0 : Nat)) (bvs_get _ _ (by rw [hl]; exact hj))
  exact this
theorem WayV.use {w : World} {g : Nat} {K : List Nat} {lim : Int} {used gm : Nat} {M : List (Nat × Nat × Nat)} (h : WayV w g K lim used gm M) : WayV (w.setCell ⟨g, 51, none⟩ (.int .i64 ((used + 1 : Nat) : Int))) g K lim (used + 1) gm M := by
  refine ⟨?_, h.len, h.byt, h.mp.still (still_sc w g 51 _) (by simpa using h.ne.symm)⟩
  have e : (wayC K lim used gm).setIfInBounds 51 (.int .i64 ((used + 1 : Nat) : Int)) = wayC K lim (used + 1) gm := by
    apply Array.ext'
    simp only [wayC, Array.toList_setIfInBounds, Array.toList_append]
    rw [List.set_append_right _ _ (by simp [ivA, h.len])]
    simp [ivA, h.len]
  have := hp_set h.hp 51 (.int .i64 ((used + 1 : Nat) : Int))
  rw [e] at this
  exact this
section
variable {ops : Array Oper} {rest : List Oper} {o : Oper} {a : Act} {w : World} {Q : Exit → Act → World → Prop} {T : TypeId} {n : Nat}
theorem ldW (hT : ArT T n) (hgd : o.guard = none) {x : Operand} (ho : o.op = .load T x) {g off : Nat} (hx : a.eval x = .pointer (some ⟨g, off, none⟩)) {l : List Nat} (H : w.rangeAt g off (bvs l)) (hl : l.length = n)
    (h : wpList Try.prog ops Q rest (a.put o.dst (.agg (ivA .u8 l))) w) : wpList Try.prog ops Q (o :: rest) a w :=
  have ⟨_, h1, _, h2⟩ := hT.hu
  wpList_load_mid hgd T x ho g off hx _ _ H h1 h2 (by rw [hT.hi, bvs_len, hl]) h
theorem qlW (hT : ArT T n) {C : World → Prop} {a1 : Act} {K : Act → Prop} {x : Operand} (ho : o.op = .load T x) {g off : Nat} (hx : a.eval x = .pointer (some ⟨g, off, none⟩)) {l : List Nat} (hl : l.length = n) (h : ∀ w, C w → w.rangeAt g off (bvs l)) (ha : a.put o.dst (.agg (ivA .u8 l)) = a1) (hK : K a1) : o.quiet Try.prog a C K := by
  have ⟨_, h1, _, h2⟩ := hT.hu
  refine ⟨.agg (ivA .u8 l), fun w hw => ?_, by rw [ha]; exact hK⟩
  unfold Oper.quietAt execOp
  have := run_loadVar_mid w g off T (bvs l) _ (h w hw) h1 h2 (by rw [hT.hi, bvs_len, hl])
  rw [bvs_ivA] at this
  simp only [ho, hx, Instr.loadAt, Instr.sureAddr, Sem.run_bind, Sem.run_pure, Result.andThen_ok, this, Oper.quietUpon, and_self]
end
set_option maxRecDepth 100000 in
set_option maxHeartbeats 8000000 in
theorem waytag_ok (g : Nat) (K : List Nat) (lim : Int) (used gm : Nat) (M : List (Nat × Nat × Nat)) (sb : Option Addr) (n cb : Nat) (b : List Nat) (i : Nat) (hi : i ≤ 281474976710656) (hn : n ≤ 1000000) (w : World) (hW : WayV w g K lim used gm M) (hv : SB w (.slice sb n cb) n b) :
    Calls Try.prog 31 #[.pointer (some ⟨g, 0, none⟩), .slice sb n cb, .int .i64 (i : Nat)] w fun e w' => ∃ s c, e = .returned (.slice s 10 c) ∧ OB w' w.heap.size 5 (.slice s 10 c) 10 (tagN K b i) ∧ BW w w' := by
  have hS : SB w (.slice none 0 0) 0 [] := ⟨rfl, (fun x hx => by cases hx), (Ows.nil w 0 5 1).sls⟩
  have cP := fun wz (h : BW w wz) => Lib.hid (put_ok (.slice none 0 0) 0 [] 4 (i / 65536) 4 (by omega) (by omega) rfl (by omega) (by omega) wz (hS.bw h))
  rw [show ((i / 65536 : Nat) : Int) = (i : Int) / 65536 from Int.natCast_ediv i 65536] at cP
  simp only [List.nil_append, Nat.zero_add] at cP
  have hF : Hid (tagN K b i = (hmacN (mid K 16 20) ([b, putB 4 (i / 65536)].flatten)).take 10) := by
    have e : [b, putB 4 (i / 65536)].flatten = b ++ putB 4 (i / 65536) := by rw [List.flatten_cons, List.flatten_cons, List.flatten_nil, List.append_nil]
    rw [e]
    rfl
  have hpl := putB_len 4 (i / 65536)
  generalize putB 4 (i / 65536) = pb at *
  have hi2 : (i : Int) ≤ 281474976710656 := by omega
  replace hpl := Lib.hid hpl
  have hV := Lib.hid hv
  have cT := fun wz sp cp (hk : SB wz (.slice (some ⟨g, 16, none⟩) 20 20) 20 (mid K 16 20)) (hp : SM wz (.slice sp 2 cp) 2 [b, pb]) => Lib.hid (tag_ok (some ⟨g, 16, none⟩) 20 20 sp 2 cp 10 (mid K 16 20) [b, pb] (by omega) (by omega) (by omega) (by omega) (by have := hv.1; have := hpl.out; simp; omega) wz hk hp)
  rw [show (10 : Int).toNat = 10 from rfl] at cT
  have hWW := Lib.hid hW
  clear hW hv hS
  go_enter Try.func31, Try.ntmps31
  go_upto_region 1 with (fail)
  refine wp_region_gg [] [] [11] (by kernel_rfl) ?_
  refine hoist [] [] (a1 := ?_) 0 rfl (by kernel_rfl) (.inl ⟨rfl, rfl⟩) rfl rfl rfl (fun x K hK => ?_) ?_
  rotate_left
  · go_big_quiet_op
    exact hK
  refine hoist [] [] (a1 := ?_) 1 rfl (by kernel_rfl) (.inl ⟨rfl, rfl⟩) rfl rfl rfl (fun x K hK => ?_) ?_
  rotate_left
  · go_big_quiet_op
    exact hK
  refine hoist [] [] (a1 := ?_) 2 rfl (by kernel_rfl) (.inl ⟨rfl, rfl⟩) rfl rfl rfl (fun x K hK => ?_) ?_
  rotate_left
  · go_big_quiet_op
    exact hK
  refine hoist [] [] (a1 := ?_) 3 rfl (by kernel_rfl) (.inl ⟨rfl, rfl⟩) rfl rfl rfl (fun x K hK => ?_) ?_
  rotate_left
  · go_big_quiet_op
    exact hK
  refine hoist [] [] (a1 := ?_) 4 rfl (by kernel_rfl) (.inl ⟨rfl, rfl⟩) rfl rfl rfl (fun x K hK => ?_) ?_
  rotate_left
  · go_big_quiet_op
    exact hK
  refine hoist [] [] (a1 := ?_) 5 rfl (by kernel_rfl) (.inl ⟨rfl, rfl⟩) rfl rfl rfl (fun x K hK => ?_) ?_
  rotate_left
  · go_big_quiet_op
    exact hK
  refine hoist [] [] (a1 := ?_) 6 rfl (by kernel_rfl) (.inl ⟨rfl, rfl⟩) rfl rfl rfl (fun x K hK => ?_) ?_
  rotate_left
  · go_big_quiet_op
    exact hK
  refine hoist [] [] (a1 := ?_) 7 rfl (by kernel_rfl) (.inl ⟨rfl, rfl⟩) rfl rfl rfl (fun x K hK => ?_) ?_
  rotate_left
  · go_big_quiet_op
    exact hK
  refine hoist [] [] (a1 := ?_) 8 rfl (by kernel_rfl) (.inl ⟨rfl, rfl⟩) rfl rfl rfl (fun x K hK => ?_) ?_
  rotate_left
  · go_big_quiet_op
    exact hK
  refine effect 9 rfl (by kernel_rfl) (by kernel_rfl) rfl (fun x9 K hK => ?_)
  go_simp
  refine Calls.mono (cP x9.now x9.bw).out ?_
  rintro e w2 ⟨v2, rfl, O2, hb⟩
  obtain ⟨s2, c2, rfl, _, _⟩ := O2.len
  replace hb : BW x9.now w2 := BW.of hb
  refine hK _ _ (hb.still []) ?_
  clear hK K
  have B2 := Lib.hid (x9.bw.trans hb)
  replace O2 := Lib.hid (O2.base x9.bw.size)
  clear hb cP
  try simp only [Act.put, List.setIfInBounds_toArray, List.set_cons_succ, List.set_cons_zero]
  refine effect 10 rfl (by kernel_rfl) (by kernel_rfl) rfl (fun x10 K hK => ?_)
  go_simp
  refine hK _ _ (Still.of_below ((Below.refl _ _).alloc (Nat.le_refl _) _)) ?_
  clear hK K
  have hb := x10.bw.trans ((BW.refl x10.now).alloc (o := .cells #[.slice sb n cb, .slice s2 4 c2] 22))
  have B3 := Lib.hid (B2.out.trans hb)
  have S3 := Lib.hid (SM.two x10.now (.slice sb n cb) n b (.slice s2 4 c2) 4 pb (hV.out.bw (B2.out.trans x10.bw)) (O2.out.bw x10.bw).sb)
  clear hb B2 O2
  generalize (x10.now.alloc _) = w4 at *
  generalize x10.now.heap.size = g4 at *
  try simp only [Act.put, List.setIfInBounds_toArray, List.set_cons_succ, List.set_cons_zero]
  refine tail 11 rfl (by kernel_rfl) rfl (fun xr => ?_)
  simp only [List.drop_succ_cons, List.drop_zero]
  have cTT := cT xr.now (some ⟨g4, 0, none⟩) 2 (hWW.out.bw (B3.out.trans xr.bw)).auth (S3.out.bw xr.bw)
  have B4 := Lib.hid (B3.out.trans xr.bw)
  clear B3 S3 cT
  generalize xr.now = w5 at *
  go_wp2_with fail
  refine Calls.mono cTT.out ?_
  rintro e w6 ⟨v, rfl, O6, hb⟩
  replace hb : BW w5 w6 := BW.of hb
  rw [← hF.out] at O6
  obtain ⟨s6, c6, rfl, _, _⟩ := O6.len
  have B6 := B4.out.trans hb
  replace O6 := O6.base B4.out.size
  dsimp only
  replace O6 := Lib.hid O6
  replace B6 := Lib.hid B6
  replace hb := Lib.hid hb
  go_wp2_with fail
  go_ret
  exact ⟨s6, c6, rfl, O6.out, B6.out⟩
end Go.Proofs.Ytikmhlbpefednaa

namespace Go.Proofs.Ytikmhlbpefednaa
open Go.RowKit

/-- A piece, in a region that draws. -/
theorem qlCutL {C : World → Prop} {a a1 : Act} {o : Oper} {K : Act → Prop} {x y : Operand} (ho : o.op = .slice 22 x (some y) none none) {sa : Option Addr} {len cap lo : Nat} {v : Int} (hx : a.eval x = .slice sa len cap) (hy : a.eval y = .int .i64 v) (hv : v = (lo : Nat)) (hl : lo ≤ len) (ha : a.put o.dst (.slice (cutA sa lo cap 1) (len - lo) (cap - lo)) = a1) (hK : K a1) : o.quiet Try.prog a C K := by
  refine ⟨.slice (cutA sa lo cap 1) (len - lo) (cap - lo), fun w hw => ?_, by rw [ha]; exact hK⟩
  unfold Oper.quietAt execOp
  have := run_cut_l (P := Try.prog) Try.underlying22 info_u8 sa len cap lo v hv .i64 hl w
  simp only [ho, hx, hy, Option.map_some, Option.map_none, Instr.sliceAt, run_underlying Try.underlying22, Sem.run_bind, Sem.run_pure, Result.andThen_ok, this, Oper.quietUpon, and_self]
theorem qlCutH {C : World → Prop} {a a1 : Act} {o : Oper} {K : Act → Prop} {x y : Operand} (ho : o.op = .slice 22 x none (some y) none) {sa : Option Addr} {len cap hi : Nat} {v : Int} (hx : a.eval x = .slice sa len cap) (hy : a.eval y = .int .i64 v) (hv : v = (hi : Nat)) (hl : hi ≤ cap) (ha : a.put o.dst (.slice sa hi cap) = a1) (hK : K a1) : o.quiet Try.prog a C K := by
  refine ⟨.slice sa hi cap, fun w hw => ?_, by rw [ha]; exact hK⟩
  unfold Oper.quietAt execOp
  have := run_cut_h (P := Try.prog) Try.underlying22 info_u8 sa len cap hi v hv .i64 hl w
  simp only [ho, hx, hy, Option.map_some, Option.map_none, Instr.sliceAt, run_underlying Try.underlying22, Sem.run_bind, Sem.run_pure, Result.andThen_ok, this, Oper.quietUpon, and_self]
theorem SB.takeW {w : World} {a : Option Addr} {n cap : Nat} {l : List Nat} (h : SB w (.slice a n cap) n l) (k : Nat) (hk : k ≤ n) : SB w (.slice a k cap) k (l.take k) := by
  obtain ⟨sa, c, he, hc, hm⟩ := h.len
  cases he
  have h1 := h.cut 0 k cap (Nat.zero_le _) hk (by omega) (Nat.le_refl _)
  simpa [cutA_zero] using h1
theorem SB.dropW {w : World} {a : Option Addr} {n cap : Nat} {l : List Nat} (h : SB w (.slice a n cap) n l) (k : Nat) (hk : k ≤ n) : SB w (.slice (cutA a k cap 1) (n - k) (cap - k)) (n - k) (l.drop k) := by
  obtain ⟨sa, c, he, hc, hm⟩ := h.len
  cases he
  have h1 := h.cut k n cap hk (Nat.le_refl _) hc (Nat.le_refl _)
  rwa [List.take_of_length_le (by rw [List.length_drop, h.1]; exact Nat.le_refl _)] at h1
theorem firstN_len (salt : List Nat) (s x : Nat) : (firstN salt s x).length = 16 := xorAt_len _ _ _ _
theorem firstN_byt (salt : List Nat) (s x : Nat) (h : Byt salt) : Byt (firstN salt s x) := xorAt_byt _ _ _ _ (xorAt_byt _ _ _ _ (xorAt_byt _ _ _ _ (zeros_byt 16) h) (putB_byt' _ _)) (putB_byt' _ _)
set_option maxRecDepth 100000 in
set_option maxHeartbeats 8000000 in
theorem wayturn_ok (g : Nat) (K : List Nat) (lim : Int) (used gm : Nat) (M : List (Nat × Nat × Nat)) (sb : Option Addr) (n cb : Nat) (b : List Nat) (h src i : Nat) (hh : h ≤ n) (hsrc : src < 4294967296) (hi : i ≤ 281474976710656) (hn : n ≤ 4096) (w : World) (hW : WayV w g K lim used gm M) (hv : SB w (.slice sb n cb) n b) :
    Calls Try.prog 30 #[.pointer (some ⟨g, 0, none⟩), .slice sb n cb, .int .i64 (h : Nat), .int .u32 (src : Nat), .int .i64 (i : Nat)] w fun e w' => ∃ s c, e = .returned (.slice s n c) ∧ OB w' w.heap.size 5 (.slice s n c) n (spinN K h src i b) ∧ BW w w' := by
  have hsl := mid_len K 36 14 (by rw [hW.len]; omega)
  have hkl := mid_len K 0 16 (by rw [hW.len]; omega)
  have hsb : ByL (mid K 36 14) := (hW.byt.drop _).take _
  have hkb : ByL (mid K 0 16) := (hW.byt.drop _).take _
  have hrs := fun wz (h : BW w wz) => Lib.hid ((hW.bw h).range 36 14 (by omega))
  have hrk := fun wz (h : BW w wz) => Lib.hid ((hW.bw h).range 0 16 (by omega))
  have hbl := hv.1
  obtain ⟨_, _, he, hc, hm⟩ := hv.len
  cases he
  have cF := fun wz => Lib.hid (first_ok (mid K 36 14) src i hsl hsb hsrc (by omega) wz)
  have hF : Hid (spinN K h src i b = [b.take h, cipN (wordsN (mid K 0 16)) (numB (firstN (mid K 36 14) src i)) (b.drop h)].flatten) := by
    have e : [b.take h, cipN (wordsN (mid K 0 16)) (numB (firstN (mid K 36 14) src i)) (b.drop h)].flatten = b.take h ++ cipN (wordsN (mid K 0 16)) (numB (firstN (mid K 36 14) src i)) (b.drop h) := by rw [List.flatten_cons, List.flatten_cons, List.flatten_nil, List.append_nil]
    rw [e]
    rfl
  have hlen := spinN_len K h src i b (by omega)
  have hfl := firstN_len (mid K 36 14) src i
  have hfb := firstN_byt (mid K 36 14) src i (byt_of hsb)
  have V1 := hv.takeW h hh
  have V2 := hv.dropW h hh
  have cC := fun wz (h : SB wz (.slice (cutA sb h cb 1) (n - h) (cb - h)) (n - h) (b.drop h)) => Lib.hid (cipher_ok (mid K 0 16) (firstN (mid K 36 14) src i) _ _ _ _ hkl (byt_of hkb) hfl (byl_of hfb) (by omega) wz h)
  have hcl := cipN_len (wordsN (mid K 0 16)) (numB (firstN (mid K 36 14) src i)) (b.drop h)
  rw [List.length_drop] at hcl
  rw [hF.out] at hlen
  have cN := fun wz v (hx : SM wz v 2 [b.take h, cipN (wordsN (mid K 0 16)) (numB (firstN (mid K 36 14) src i)) (b.drop h)]) => Lib.hid (concat_ok v 2 _ (by rw [hlen]; omega) wz hx)
  rw [hlen] at cN
  generalize cipN (wordsN (mid K 0 16)) (numB (firstN (mid K 36 14) src i)) (b.drop h) = ci at *
  generalize firstN (mid K 36 14) src i = fi at *
  generalize mid K 0 16 = kk at *
  generalize mid K 36 14 = ss at *
  have hi2 : (i : Int) ≤ 281474976710656 := by omega
  have hlo : h ≤ cb := by omega
  rw [hbl] at hlen hcl
  rw [hbl] at cN
  replace hsl := Lib.hid hsl
  replace hkl := Lib.hid hkl
  replace hsb := Lib.hid hsb
  replace hkb := Lib.hid hkb
  replace hbl := Lib.hid hbl
  replace hlen := Lib.hid hlen
  replace hfl := Lib.hid hfl
  replace hfb := Lib.hid hfb
  replace V1 := Lib.hid V1
  replace V2 := Lib.hid V2
  replace hcl := Lib.hid hcl
  clear hW hv
  go_enter Try.func30, Try.ntmps30
  go_wp2_with (first | (refine ldW ar14 rfl rfl (by rfl) (hrs w (BW.refl _)).out hsl.out ?_))
  refine Calls.mono (cF w).out ?_
  rintro e w1 ⟨rfl, hb⟩
  replace hb : BW w w1 := BW.of hb
  dsimp only
  have BA : BW w1 (w1.alloc (.cells (ivA .u8 fi) 32)) := (BW.refl _).alloc
  have A2 := Lib.hid (AvB.new w1 32 fi)
  have B2 := Lib.hid (hb.trans BA)
  clear hb cF
  replace BA := Lib.hid BA
  go_upto_region 2 with (first | (refine alA ar16 rfl rfl ?_) | (refine stN ar16 rfl rfl rfl rfl hfl.out ?_))
  generalize (w1.alloc _) = w2 at *
  generalize w1.heap.size = g2 at *
  clear BA
  try simp only [Act.put, List.setIfInBounds_toArray, List.set_cons_succ, List.set_cons_zero]
  refine wp_region_gg [] [] [14] (by kernel_rfl) ?_
  refine hoist [] [] (a1 := ?_) 0 rfl (by kernel_rfl) (.inl ⟨rfl, rfl⟩) rfl rfl rfl (fun x K hK => ?_) ?_
  rotate_left
  · go_big_quiet_op
    exact hK
  refine hoist [] [] (a1 := ?_) 1 rfl (by kernel_rfl) (.inl ⟨rfl, rfl⟩) rfl rfl rfl (fun x K hK => ?_) ?_
  rotate_left
  · go_big_quiet_op
    exact hK
  refine hoist [] [] (a1 := ?_) 2 rfl (by kernel_rfl) (.inl ⟨rfl, rfl⟩) rfl rfl rfl (fun x K hK => ?_) ?_
  rotate_left
  · refine qlCutH rfl (by rfl) (by rfl) rfl hlo (by simp only [Act.put, List.setIfInBounds_toArray, List.set_cons_succ, List.set_cons_zero]; rfl) ?_
    exact hK
  refine hoist [] [] (a1 := ?_) 3 rfl (by kernel_rfl) (.inl ⟨rfl, rfl⟩) rfl rfl rfl (fun x K hK => ?_) ?_
  rotate_left
  · go_big_quiet_op
    exact hK
  refine hoist [] [] (a1 := ?_) 4 rfl (by kernel_rfl) (.inl ⟨rfl, rfl⟩) rfl rfl rfl (fun x K hK => ?_) ?_
  rotate_left
  · go_big_quiet_op
    exact hK
  refine hoist [] [] (a1 := ?_) 5 rfl (by kernel_rfl) (.inl ⟨rfl, rfl⟩) rfl rfl rfl (fun x K hK => ?_) ?_
  rotate_left
  · go_big_quiet_op
    exact hK
  refine hoist [] [] (a1 := ?_) 6 rfl (by kernel_rfl) (.inl ⟨rfl, rfl⟩) rfl rfl rfl (fun x K hK => ?_) ?_
  rotate_left
  · go_big_quiet_op
    exact hK
  refine hoist [] [] (a1 := ?_) 7 rfl (by kernel_rfl) (.inl ⟨rfl, rfl⟩) rfl rfl rfl (fun x K hK => ?_) ?_
  rotate_left
  · refine qlW ar16 rfl (by rfl) hkl.out (fun w' hw => by subst hw; exact (hrk _ (B2.out.trans x.bw)).out) (by simp only [Act.put, List.setIfInBounds_toArray, List.set_cons_succ, List.set_cons_zero]; rfl) ?_
    exact hK
  refine hoist [] [] (a1 := ?_) 8 rfl (by kernel_rfl) (.inl ⟨rfl, rfl⟩) rfl rfl rfl (fun x K hK => ?_) ?_
  rotate_left
  · refine qlA ar16 rfl (by rfl) hfl.out (fun w' hw => by subst hw; exact A2.out.bw x.bw) (by simp only [Act.put, List.setIfInBounds_toArray, List.set_cons_succ, List.set_cons_zero]; rfl) ?_
    exact hK
  refine hoist [] [] (a1 := ?_) 9 rfl (by kernel_rfl) (.inl ⟨rfl, rfl⟩) rfl rfl rfl (fun x K hK => ?_) ?_
  rotate_left
  · go_big_quiet_op
    exact hK
  refine hoist [] [] (a1 := ?_) 10 rfl (by kernel_rfl) (.inl ⟨rfl, rfl⟩) rfl rfl rfl (fun x K hK => ?_) ?_
  rotate_left
  · go_big_quiet_op
    exact hK
  refine hoist [] [] (a1 := ?_) 11 rfl (by kernel_rfl) (.inl ⟨rfl, rfl⟩) rfl rfl rfl (fun x K hK => ?_) ?_
  rotate_left
  · refine qlCutL rfl (by rfl) (by rfl) rfl hh (by simp only [Act.put, List.setIfInBounds_toArray, List.set_cons_succ, List.set_cons_zero]; rfl) ?_
    exact hK
  refine effect 12 rfl (by kernel_rfl) (by kernel_rfl) rfl (fun x12 K hK => ?_)
  go_simp
  refine Calls.mono (cC x12.now (V2.out.bw (B2.out.trans x12.bw))).out ?_
  rintro e w3 ⟨v3, rfl, O3, hb⟩
  obtain ⟨s3, c3, rfl, _, _⟩ := O3.len
  replace hb : BW x12.now w3 := BW.of hb
  refine hK _ _ (hb.still []) ?_
  clear hK K
  have B3 := Lib.hid ((B2.out.trans x12.bw).trans hb)
  replace O3 := Lib.hid (O3.base (Nat.le_trans B2.out.size x12.bw.size))
  clear hb cC B2 A2
  try simp only [Act.put, List.setIfInBounds_toArray, List.set_cons_succ, List.set_cons_zero]
  refine effect 13 rfl (by kernel_rfl) (by kernel_rfl) rfl (fun x13 K hK => ?_)
  go_simp
  refine hK _ _ (Still.of_below ((Below.refl _ _).alloc (Nat.le_refl _) _)) ?_
  clear hK K
  have hb := x13.bw.trans ((BW.refl x13.now).alloc (o := .cells #[.slice sb h cb, .slice s3 (n - h) c3] 22))
  have B4 := Lib.hid (B3.out.trans hb)
  have S4 := Lib.hid (SM.two x13.now (.slice sb h cb) h (b.take h) (.slice s3 (n - h) c3) (n - h) ci (V1.out.bw (B3.out.trans x13.bw)) (O3.out.bw x13.bw).sb)
  clear hb B3 O3
  generalize (x13.now.alloc _) = w4 at *
  generalize x13.now.heap.size = g4 at *
  try simp only [Act.put, List.setIfInBounds_toArray, List.set_cons_succ, List.set_cons_zero]
  refine tail 14 rfl (by kernel_rfl) rfl (fun xr => ?_)
  simp only [List.drop_succ_cons, List.drop_zero]
  have cNN := cN xr.now _ (S4.out.bw xr.bw)
  have B5 := Lib.hid (B4.out.trans xr.bw)
  clear B4 S4 cN
  generalize xr.now = w5 at *
  go_wp2_with fail
  refine Calls.mono cNN.out ?_
  rintro e w6 ⟨v, rfl, O6, hb⟩
  replace hb : BW w5 w6 := BW.of hb
  rw [← hF.out] at O6
  obtain ⟨s6, c6, rfl, _, _⟩ := O6.len
  have B6 := B5.out.trans hb
  replace O6 := O6.base B5.out.size
  dsimp only
  replace O6 := Lib.hid O6
  replace B6 := Lib.hid B6
  replace hb := Lib.hid hb
  go_wp2_with fail
  go_ret
  exact ⟨s6, c6, rfl, O6.out, B6.out⟩
end Go.Proofs.Ytikmhlbpefednaa
