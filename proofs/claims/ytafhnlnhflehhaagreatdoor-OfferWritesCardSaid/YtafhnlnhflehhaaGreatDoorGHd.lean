/- The lines that an offer's text may have, by their first words: a map. No condition. The program's words: a line cut at its blanks, rune by rune. No condition but the size's. The program's words. No condition but the size's. strings.CutSuffix of a line's end. No condition but the size's. -/
import Derived.Test.YtafhnlnhflehhaaGreatDoorMp
import Derived.Test.YtafhnlnhflehhaaGreatDoorGHc
import Derived.Test.YtafhnlnhflehhaaGreatDoorGHb
import Derived.Laws.RangeAny
import Derived.Lib.OthersKept
namespace Go.Proofs.YtafhnlnhflehhaaGreatDoor
open Go.RowKit
theorem strLaw : Maps.Keyed Tryz.prog 9 := Maps.string_keyed Tryz.underlying9
theorem str_key (x : BL) (h : x.length ≤ 1000000) : keyOf Tryz.prog 9 (.string (bS x)) = some (.string (bS x).data.toList) :=
 WideMaps.keyOf_string_mk Tryz.underlying9 (by rw [bS_size]; exact Nat.le_trans h (by decide))
def stS (l : List (BL × Value)) : List (Value × Value) := l.map fun p => (.string (bS p.1), p.2)
theorem stS_keys {l : List (BL × Value)} (h : ∀ p ∈ l, p.1.length ≤ 1000000) : ∀ p ∈ stS l, ∃ k, keyOf Tryz.prog 9 p.1 = some k := fun p hp => by
 obtain ⟨q, hq, rfl⟩ := List.mem_map.1 hp
 exact ⟨_, str_key q.1 (h q hq)⟩
theorem sput {w : World} {g : Nat} {l : List (BL × Value)} (h : MapIn w g (stS l)) (n : BL) (v : Value) (hl : ∀ p ∈ l, p.1.length ≤ 1000000) (hn : n.length ≤ 1000000) (hne : ∀ p ∈ l, p.1 ≠ n) :
  ∃ w', (Instr.mapUpdate 62 (.map (some g)) (.string (bS n)) v).run Tryz.prog w = .ok () w' ∧ MapIn w' g (stS (l ++ [(n, v)])) ∧ Still [g] w w' := by
 obtain ⟨w', h1, h2, h3⟩ := h.insert strLaw Tryz.underlying62 (stS_keys hl) (val := v) (str_key n hn) (fun p hp e => by
  obtain ⟨q, hq, rfl⟩ := List.mem_map.1 hp
  simp only [Value.string.injEq] at e
  exact hne q hq (bS_inj e))
 refine ⟨w', h1, ?_, h3⟩
 unfold stS at h2 ⊢
 rw [List.map_append]
 exact h2
abbrev lnV (m : Int) (f : Nat) : Value := .agg #[.int .i64 m, .func (.func f) #[] #[]]
def lineS : List (BL × Value) := [(kOffer, lnV 1 38), (kTrack, lnV 3 39), (kHear, lnV 3 40)]
set_option maxRecDepth 100000 in
set_option maxHeartbeats 8000000 in
theorem lines_any (w : World) : Calls Tryz.prog 22 #[] w fun e w' => ∃ g, e = .returned (.map (some g)) ∧ MapIn w' g (stS lineS) ∧ BW w w' := by
 go_enter Tryz.func22, Tryz.ntmps22
 go_upto_region 1 with (fail)
 obtain ⟨w1, g, r0, m0, b1, hg⟩ : ∃ w1 g, (Instr.makeMap 62 none).run Tryz.prog w = .ok (.map (some g)) w1 ∧ MapIn w1 g (stS []) ∧ BW w w1 ∧ g = w.heap.size := ⟨_, _, rfl, MapIn.made w, (BW.refl w).alloc, rfl⟩
 subst hg
 obtain ⟨w2, r1, m1, t1⟩ := sput m0 kOffer (.agg #[.int .i64 1, .func (.func 38) #[] #[]]) (by simp) (by decide) (by simp)
 obtain ⟨w3, r2, m2, t2⟩ := sput m1 kTrack (.agg #[.int .i64 3, .func (.func 39) #[] #[]]) (by simp; decide) (by decide) (by simp; decide)
 obtain ⟨w4, r3, m3, t3⟩ := sput m2 kHear (.agg #[.int .i64 3, .func (.func 40) #[] #[]]) (by simp; decide) (by decide) (by simp; decide)
 have h1 : bS kOffer = ⟨#[111, 102, 102, 101, 114]⟩ := rfl
 have h2 : bS kTrack = ⟨#[116, 114, 97, 99, 107]⟩ := rfl
 have h3 : bS kHear = ⟨#[104, 101, 97, 114]⟩ := rfl
 rw [h1] at r1
 rw [h2] at r2
 rw [h3] at r3
 clear h1 h2 h3
 have hB : Hid (BW w w4) := Lib.hid (b1.stP ((t1.trans t2).trans t3) (fun j hj => by obtain rfl : j = w.heap.size := (by simpa using hj); exact Nat.le_refl _))
 have hM : Hid (MapIn w4 w.heap.size (stS lineS)) := Lib.hid m3
 clear m0 m1 m2 m3 t1 t2 t3 b1
 go_wp2_with fail
 go_ret
 exact ⟨_, rfl, hM.out, hB.out⟩
def LkR (x : BL) (v : Value) : Prop := (x = kOffer ∧ v = .tuple #[lnV 1 38, .bool true]) ∨ (x = kTrack ∧ v = .tuple #[lnV 3 39, .bool true]) ∨ (x = kHear ∧ v = .tuple #[lnV 3 40, .bool true]) ∨
 ((x ≠ kOffer ∧ x ≠ kTrack ∧ x ≠ kHear) ∧ v = .tuple #[.agg #[.int .i64 0, .nilFunc], .bool false])
theorem look_any {w : World} {g : Nat} (h : MapIn w g (stS lineS)) (x : BL) (hx : x.length ≤ 1000000) :
  ∃ v, (Instr.lookup 62 (.map (some g)) (.string (bS x)) true).run Tryz.prog w = .ok v w ∧ LkR x v := by
 have hz : (zeroValue 60).run Tryz.prog w = .ok (.agg #[.int .i64 0, .nilFunc]) w := by kernel_rfl
 have hk : ∀ p ∈ lineS, p.1.length ≤ 1000000 := by unfold lineS; simp; decide
 rcases h.look strLaw Tryz.underlying62 (stS_keys hk) hz (str_key x hx) with ⟨v, h1, h2⟩ | ⟨h1, h2⟩
 ·refine ⟨_, by rw [h2 true, if_pos rfl], ?_⟩
  obtain ⟨q, hq, he⟩ := List.mem_map.1 h1
  simp only [Prod.mk.injEq, Value.string.injEq] at he
  obtain ⟨e1, rfl⟩ := he
  have e1 := bS_inj e1
  subst e1
  simp only [lineS, List.mem_cons, List.not_mem_nil, or_false] at hq
  rcases hq with rfl | rfl | rfl
  ·exact .inl ⟨rfl, rfl⟩
  ·exact .inr (.inl ⟨rfl, rfl⟩)
  ·exact .inr (.inr (.inl ⟨rfl, rfl⟩))
 ·refine ⟨_, by rw [h2 true, if_pos rfl], .inr (.inr (.inr ⟨?_, rfl⟩))⟩
  have hn : ∀ p ∈ lineS, p.1 ≠ x := fun p hp e => h1 (.string (bS p.1), p.2) (List.mem_map.2 ⟨p, hp, rfl⟩) (by rw [e])
  exact ⟨fun e => hn _ (by unfold lineS; simp; exact .inl rfl) e.symm, fun e => hn _ (by unfold lineS; simp; exact .inr (.inl rfl)) e.symm, fun e => hn _ (by unfold lineS; simp; exact .inr (.inr rfl)) e.symm⟩
end Go.Proofs.YtafhnlnhflehhaaGreatDoor

namespace Go.Proofs.YtafhnlnhflehhaaGreatDoor
open Go.RowKit
theorem get_at (s : ByteArray) (p : Nat) (h : p < s.size) : s.get! p = s[p]'h := by
 simp [ByteArray.get!, getElem!_pos, h]
 rfl
theorem dec_step (s : ByteArray) (pos : Nat) (h : pos < s.size) : ((Utf8.decode s pos).1 = 32 ↔ s[pos]'h = 32) ∧ 1 ≤ (Utf8.decode s pos).2 ∧ pos + (Utf8.decode s pos).2 ≤ s.size ∧ ∀ k, pos < k → ∀ hk : k < s.size, k < pos + (Utf8.decode s pos).2 → s[k]'hk ≠ 32 := by
 have e0 : s.get! (pos + 0) = s[pos]'h := get_at s pos h
 have hne : ∀ k, (hk : pos + k < s.size) → (s.get! (pos + k)).toNat / 64 = 2 → s[pos + k]'hk ≠ 32 := fun k hk hd e => by
  rw [get_at s (pos + k) hk, e] at hd
  exact absurd hd (by decide)
 have h32 : ¬ (s[pos]'h).toNat < 128 → s[pos]'h ≠ 32 := fun hn e => by rw [e] at hn; exact hn (by decide)
 simp only [Utf8.decode, e0]
 split
 ·refine ⟨?_, Nat.le_refl _, by omega, fun k h1 _ h2 => by omega⟩
  constructor
  ·intro e; exact UInt8.toNat_inj.1 e
  ·intro e; rw [e]; rfl
 ·rename_i hb
  have hb32 := h32 hb
  split
  ·rename_i hc
   simp only [Bool.and_eq_true, beq_iff_eq, decide_eq_true_eq] at hc
   split
   ·rename_i hge
    refine ⟨⟨fun e => by simp only at e; omega, fun e => absurd e hb32⟩, (show 1 ≤ 2 by decide), by have := hc.2.1; show pos + 2 ≤ _; omega, fun k h1 hk h2 => ?_⟩
    have h2' : k < pos + 2 := h2
    obtain rfl : k = pos + 1 := by omega
    exact hne 1 hk hc.2.2
   ·exact ⟨⟨fun e => by simp [Utf8.runeError] at e, fun e => absurd e hb32⟩, Nat.le_refl _, by show pos + 1 ≤ _; omega, fun k h1 _ h2 => by have h2' : k < pos + 1 := h2; omega⟩
  ·split
   ·rename_i hc
    simp only [Bool.and_eq_true, beq_iff_eq, decide_eq_true_eq] at hc
    split
    ·rename_i hge
     simp only [Bool.and_eq_true, decide_eq_true_eq] at hge
     refine ⟨⟨fun e => by simp only at e; omega, fun e => absurd e hb32⟩, (show 1 ≤ 3 by decide), by have := hc.2.1; show pos + 3 ≤ _; omega, fun k h1 hk h2 => ?_⟩
     have h2' : k < pos + 3 := h2
     rcases (show k = pos + 1 ∨ k = pos + 2 by omega) with rfl | rfl
     ·exact hne 1 hk hc.1.2.2
     ·exact hne 2 hk hc.2.2
    ·exact ⟨⟨fun e => by simp [Utf8.runeError] at e, fun e => absurd e hb32⟩, Nat.le_refl _, by show pos + 1 ≤ _; omega, fun k h1 _ h2 => by have h2' : k < pos + 1 := h2; omega⟩
   ·split
    ·rename_i hc
     simp only [Bool.and_eq_true, beq_iff_eq, decide_eq_true_eq] at hc
     split
     ·rename_i hge
      simp only [Bool.and_eq_true, decide_eq_true_eq] at hge
      refine ⟨⟨fun e => by simp only at e; omega, fun e => absurd e hb32⟩, (show 1 ≤ 4 by decide), by have := hc.2.1; show pos + 4 ≤ _; omega, fun k h1 hk h2 => ?_⟩
      have h2' : k < pos + 4 := h2
      rcases (show k = pos + 1 ∨ k = pos + 2 ∨ k = pos + 3 by omega) with rfl | rfl | rfl
      ·exact hne 1 hk hc.1.1.2.2
      ·exact hne 2 hk hc.1.2.2
      ·exact hne 3 hk hc.2.2
     ·exact ⟨⟨fun e => by simp [Utf8.runeError] at e, fun e => absurd e hb32⟩, Nat.le_refl _, by show pos + 1 ≤ _; omega, fun k h1 _ h2 => by have h2' : k < pos + 1 := h2; omega⟩
    ·exact ⟨⟨fun e => by simp [Utf8.runeError] at e, fun e => absurd e hb32⟩, Nat.le_refl _, by show pos + 1 ≤ _; omega, fun k h1 _ h2 => by have h2' : k < pos + 1 := h2; omega⟩
theorem cut_run (c : UInt8) : ∀ (x l : BL) (P : List BL) (cur : BL), (∀ y ∈ x, y ≠ c) → cutB c l = P ++ [cur] → cutB c (l ++ x) = P ++ [cur ++ x]
 | [], l, P, cur, _, h => by simpa using h
 | y :: x, l, P, cur, hx, h => by
  have h1 := cut_snoc c y l P cur h
  rw [if_neg (hx y (by simp))] at h1
  have h2 := cut_run c x (l ++ [y]) P (cur ++ [y]) (fun z hz => hx z (by simp [hz])) h1
  simpa using h2
end Go.Proofs.YtafhnlnhflehhaaGreatDoor

namespace Go.Proofs.YtafhnlnhflehhaaGreatDoor
open Go.RowKit
theorem still_iter (w : World) (k : Nat) (s : ByteArray) (pos : Nat) : Still [k] w (w.iterAt k s pos) :=
 ⟨rfl, rfl, rfl, by rw [Lib.iterAt_size]; exact Nat.le_refl _, fun j _ hj => Lib.iterAt_other w k j s pos (by simpa using hj)⟩
set_option maxRecDepth 100000 in
set_option maxHeartbeats 8000000 in
theorem words_any (S : ByteArray) (hS : S.size ≤ 1000000) (w : World) :
  Calls Tryz.prog 21 #[.string S] w fun e w' => ∃ s n cp, e = .returned (.slice s n cp) ∧ n ≤ S.size + 1 ∧ EQ EStr 9 w' w.heap.size (.slice s n cp) n ((cutB 32 S.data.toList).map bS) ∧ BW w w' := by
 obtain ⟨gi, hgi⟩ : ∃ g, w.heap.size = g := ⟨_, rfl⟩
 have It0 : Hid ((w.iter S 0).heap[gi]? = some (.stringIter S 0)) := Lib.hid (by rw [← hgi]; exact World.iter_heap w S 0)
 have B0 : Hid (BW w (w.iter S 0)) := Lib.hid ((BW.refl w).alloc)
 have Q0 : Hid (EQ EStr 9 (w.iter S 0) (gi + 1) (.slice none 0 0) 0 (([] : List BL).map bS)) := Lib.hid (EQ.nil _ _ _ _)
 have I0 : Hid (cutB 32 (S.data.toList.take 0) = ([] : List BL) ++ [(S.data.toList.take 0).drop 0]) := Lib.hid rfl
 rw [hgi]
 replace hgi := Lib.hid hgi
 go_enter Tryz.func21, Tryz.ntmps21
 go_upto_region 4 with (fail)
 have hgi2 := hgi.out
 rw [hgi2]
 clear hgi2
 generalize w.iter S 0 = w1 at *
 go_loopg [3, 4] (S.size + 1) (fun m' v3 v4 wx => ∃ (pos fr n cp : Nat) (s : Option Addr) (P : List BL), m' = S.size + 1 - pos ∧ pos ≤ S.size ∧ v4 = .int .i64 (fr : Nat) ∧ v3 = .slice s n cp ∧ n ≤ pos ∧ fr ≤ pos ∧ Hid (wx.heap[gi]? = some (.stringIter S pos)) ∧ Hid (EQ EStr 9 wx (gi + 1) (.slice s n cp) n (P.map bS)) ∧ Hid (cutB 32 (S.data.toList.take pos) = P ++ [(S.data.toList.take pos).drop fr]) ∧ Hid (BW w wx))
 case atStart => exact ⟨0, 0, 0, 0, none, [], by omega, by omega, rfl, rfl, by omega, by omega, It0, Q0, I0, B0⟩
 case round =>
  clear It0 Q0 I0 B0
  obtain ⟨pos, fr, n, cp, s, P, rfl, hpos, rfl, rfl, hn, hfr, It, Q, I, B⟩ := hrel
  obtain ⟨_, _, he, hncp, hcpm⟩ := Q.out.len
  cases he
  unfold maxLen at hcpm
  by_cases hp : pos < S.size
  ·obtain ⟨h32, hn1, hn2, hrun⟩ := dec_step S pos hp
   have hnx0 : ∀ ty, (Instr.next (.pointer (some ⟨gi, 0, none⟩)) true ty).run Tryz.prog wr = _ := fun ty => Lib.run_next_any_at wr gi S pos ty It.out hp
   have It2 := Lib.iterAt_heap wr gi S pos (pos + (Utf8.decode S pos).2) It.out
   have hst := still_iter wr gi S (pos + (Utf8.decode S pos).2)
   have hw : ∀ hb : S[pos]'hp = 32, (Utf8.decode S pos).2 = 1 := fun hb => by rw [decode_ascii S pos hp (by rw [hb]; decide)]
   obtain ⟨r, hr⟩ : ∃ r, (Utf8.decode S pos).1 = r := ⟨_, rfl⟩
   obtain ⟨m', hm'⟩ : ∃ m, (Utf8.decode S pos).2 = m := ⟨_, rfl⟩
   rw [hr] at h32 hnx0
   rw [hm'] at hn1 hn2 hrun hnx0 It2 hst hw
   obtain ⟨W1, hW1⟩ : ∃ W, wr.iterAt gi S (pos + m') = W := ⟨_, rfl⟩
   rw [hW1] at hnx0 It2 hst
   have hnx : ∀ ty, (Instr.next (.pointer (some ⟨gi, 0, none⟩)) true ty).run Tryz.prog wr = .ok (.tuple #[.bool true, .int .i64 (pos : Nat), .int .i32 (r : Nat)]) W1 := hnx0
   have B1 := Lib.hid (B.out.stP hst (fun k hk => by obtain rfl : k = gi := (by simpa using hk); rw [hgi.out]; exact Nat.le_refl _))
   have Q1 : Hid (EQ EStr 9 W1 (gi + 1) (.slice s n cp) n (P.map bS)) := Lib.hid (Q.out.still hst (fun _ _ => trivial) (fun k hk hm => by
    have h1 := Q.out.ge' k hk
    obtain rfl : k = gi := (by simpa using hm)
    omega))
   replace It2 := Lib.hid It2
   clear hnx0 hr hm' hW1 hst It Q B
   by_cases hb : S[pos]'hp = 32
   ·obtain rfl : m' = 1 := hw hb
    obtain rfl : r = 32 := h32.2 hb
    have hsn := cut_snoc 32 (S[pos]'hp) _ _ _ I.out
    rw [if_pos hb, ← ba_take S pos hp] at hsn
    have I2 : Hid (cutB 32 (S.data.toList.take (pos + 1)) = (P ++ [(S.data.toList.take pos).drop fr]) ++ [(S.data.toList.take (pos + 1)).drop (pos + 1)]) := Lib.hid (by
     rw [hsn, List.drop_of_length_le (i := pos + 1) (by rw [List.length_take]; omega)])
    clear hsn h32 hrun hw hb I
    go_upto_region 7 with (fail)
    clear hnx
    have BA := (BW.refl W1).alloc (o := .cells #[.string (S.extract fr pos)] 9)
    have L11 : Hid (Sls (W1.alloc (.cells #[.string (S.extract fr pos)] 9)) EStr.size (.slice (some ⟨W1.heap.size, 0, none⟩) 1 1) 1 [.string (S.extract fr pos)]) := Lib.hid (Sls.new1 (E := EStr) W1 9 [.string (S.extract fr pos)] rfl)
    replace Q1 := Lib.hid (Q1.out.bw BA)
    replace B1 := Lib.hid (B1.out.trans BA)
    have It3 : Hid ((W1.alloc (.cells #[.string (S.extract fr pos)] 9)).heap[gi]? = some (.stringIter S (pos + 1))) := Lib.hid (BA.heap It2.out)
    have hz11 : Hid (gi + 1 ≤ (W1.alloc (.cells #[.string (S.extract fr pos)] 9)).heap.size) := Lib.hid (Nat.succ_le_of_lt (Array.getElem?_eq_some_iff.1 It3.out).1)
    clear BA It2
    go_upto_region 8 with (at_builtin; go_must (refine wpList_apEQ slStr rfl _ _ rfl (gi + 1) (.slice s n cp) n _ rfl Q1.out _ rfl 1 [S.extract fr pos] [.string (S.extract fr pos)] L11.out (EL.single rfl) rfl (by omega) hz11.out (fun _ _ => trivial) ?_; intro s7 c7 w7 hc7 hm7 E7 T7 B7 G7; unfold maxLen at hm7; replace E7 := Lib.hid E7; have It4 : Hid (w7.heap[gi]? = some (.stringIter S (pos + 1))) := Lib.hid (by rw [B7.block gi (by omega)]; exact It3.out); replace B1 := Lib.hid (B1.out.step B7 (by rw [hgi.out]; omega)); clear B7 G7 T7 Q1 It3))
    have E8 : Hid (EQ EStr 9 w7 (gi + 1) (.slice s7 (n + 1) c7) (n + 1) ((P ++ [(S.data.toList.take pos).drop fr]).map bS)) := Lib.hid (by
     rw [List.map_append, List.map_singleton, bS_ext]; exact E7.out)
    clear E7 L11 hz11
    try simp only [Act.put, List.setIfInBounds_toArray, List.set_cons_succ, List.set_cons_zero]
    go_wp2_with fail
    go_roundg (S.size + 1 - (pos + 1))
    case measure => omega
    case rel => exact ⟨pos + 1, pos + 1, n + 1, c7, s7, _, rfl, by omega, by first | rfl | (push_cast; rfl), rfl, by omega, by omega, It4, E8, I2, B1⟩
   ·have hr32 : r ≠ 32 := fun e => hb (h32.1 e)
    have dr : ((r : Int) == 32) = false := beq_eq_false_iff_ne.2 (by omega)
    have I2 : Hid (cutB 32 (S.data.toList.take (pos + m')) = P ++ [(S.data.toList.take (pos + m')).drop fr]) := Lib.hid (by
     have e1 : S.data.toList.take (pos + m') = S.data.toList.take pos ++ (S.data.toList.drop pos).take m' := by rw [List.take_add]
     have h2 := cut_run 32 ((S.data.toList.drop pos).take m') _ _ _ (fun y hy => by
      obtain ⟨k, hk, rfl⟩ := List.mem_iff_getElem.1 hy
      rw [List.length_take, List.length_drop, ← ba_size] at hk
      rw [List.getElem_take, List.getElem_drop, ba_get S (pos + k) (by omega)]
      by_cases hk0 : k = 0
      ·subst hk0; exact hb
      ·exact hrun (pos + k) (by omega) (by omega) (by omega)) I.out
     rw [e1, h2, List.drop_append_of_le_length (by rw [List.length_take, ← ba_size]; omega)])
    clear h32 hrun hw hb I hr32
    go_wp2_with fail
    go_roundg (S.size + 1 - (pos + m'))
    case measure => omega
    case rel => exact ⟨pos + m', fr, n, cp, s, P, rfl, by omega, rfl, rfl, by omega, by omega, It2, Q1, I2, B1⟩
  ·obtain rfl : pos = S.size := by omega
   have hnx : ∀ ty, (Instr.next (.pointer (some ⟨gi, 0, none⟩)) true ty).run Tryz.prog wr = .ok (.tuple #[.bool false]) wr := fun ty => Lib.run_next_end_at wr gi S S.size ty It.out hp
   have hcut : Hid (cutB 32 S.data.toList = P ++ [(S.data.toList.take S.size).drop fr]) := Lib.hid (by
    have := I.out
    rwa [List.take_of_length_le (l := S.data.toList) (i := S.size) (by rw [← ba_size]; exact Nat.le_refl _)] at this ⊢)
   have hlt := (Array.getElem?_eq_some_iff.1 It.out).1
   have BA := (BW.refl wr).alloc (o := .cells #[.string (S.extract fr S.size)] 9)
   have L11 : Hid (Sls (wr.alloc (.cells #[.string (S.extract fr S.size)] 9)) EStr.size (.slice (some ⟨wr.heap.size, 0, none⟩) 1 1) 1 [.string (S.extract fr S.size)]) := Lib.hid (Sls.new1 (E := EStr) wr 9 [.string (S.extract fr S.size)] rfl)
   replace Q := Lib.hid (Q.out.bw BA)
   replace B := Lib.hid (B.out.trans BA)
   have hz11 : Hid (gi + 1 ≤ (wr.alloc (.cells #[.string (S.extract fr S.size)] 9)).heap.size) := Lib.hid (Nat.le_trans hlt BA.size)
   clear BA I It hlt
   go_wp2_with (at_builtin; go_must (refine wpList_apEQ slStr rfl _ _ rfl (gi + 1) (.slice s n cp) n _ rfl Q.out _ rfl 1 [S.extract fr S.size] [.string (S.extract fr S.size)] L11.out (EL.single rfl) rfl (by omega) hz11.out (fun _ _ => trivial) ?_; intro s7 c7 w7 hc7 hm7 E7 T7 B7 G7; unfold maxLen at hm7; replace E7 := Lib.hid E7; replace B := Lib.hid (B.out.step B7 (by rw [hgi.out]; omega)); clear B7 G7 T7 Q))
   go_ret
   exact ⟨_, _, _, rfl, by omega, by
    rw [hcut.out, List.map_append, List.map_singleton, bS_ext]
    exact E7.out.up (Nat.le_succ _), B.out⟩
end Go.Proofs.YtafhnlnhflehhaaGreatDoor

namespace Go.Proofs.YtafhnlnhflehhaaGreatDoor
open Go.RowKit
def CsR (S : ByteArray) (e : Ending) : Prop := (∃ T : ByteArray, S.data.toList = T.data.toList ++ [10] ∧ e = .returned (.tuple #[.string T, .bool true])) ∨ ((∀ l, S.data.toList ≠ l ++ [10]) ∧ e = .returned (.tuple #[.string S, .bool false]))
theorem ext_last (S : ByteArray) (k : Nat) (h : S.size = k + 1) : ∃ c, (S.extract k S.size).toList = [c] ∧ S.data.toList = (S.extract 0 k).data.toList ++ [c] := by
 have hk : k < S.size := by omega
 refine ⟨S[k]'hk, ?_, ?_⟩
 ·rw [ByteArray.toList_eq, ba_ext_list, h, ba_take S k hk, List.drop_append_of_le_length (by rw [List.length_take, ← ba_size]; omega), List.drop_of_length_le (by rw [List.length_take]; omega)]
  rfl
 ·rw [ba_ext_list, List.drop_zero, ← ba_take S k hk, List.take_of_length_le (by rw [← ba_size]; omega)]
set_option maxRecDepth 100000 in
set_option maxHeartbeats 8000000 in
theorem hassuf_any (S : ByteArray) (hS : S.size ≤ 1000000) (w : World) :
  Calls Tryz.prog 57 #[.string S, .string ⟨#[10]⟩] w fun e w' => (∃ b : Bool, e = .returned (.bool b) ∧ (b = true ↔ ∃ l, S.data.toList = l ++ [10])) ∧ BW w w' := by
 by_cases h0 : S.size = 0
 ·have d1 : decide (1 ≤ (S.size : Int)) = false := by simp; omega
  have hR : Hid (false = true ↔ ∃ l, S.data.toList = l ++ [10]) := Lib.hid (by
   constructor
   ·intro h; cases h
   ·intro ⟨l, e⟩
    have := congrArg List.length e
    rw [← ba_size, List.length_append, List.length_singleton] at this
    omega)
  clear h0
  go_enter Tryz.func57, Tryz.ntmps57
  go_wp2_with fail
  go_ret
  exact ⟨⟨_, rfl, hR.out⟩, BW.refl _⟩
 ·obtain ⟨k, hk⟩ : ∃ k, S.size = k + 1 := ⟨S.size - 1, by omega⟩
  obtain ⟨c, e1, e2⟩ := ext_last S k hk
  have d1 : decide (1 ≤ (S.size : Int)) = true := by simp; omega
  have e3 : (S.size : Int) - 1 = (k : Int) := by omega
  have hks : k ≤ S.size := by omega
  obtain ⟨b, hb⟩ : ∃ b : Bool, ((S.extract k S.size).toList == [10]) = b := ⟨_, rfl⟩
  have hR : Hid (b = true ↔ ∃ l, S.data.toList = l ++ [10]) := Lib.hid (by
   rw [← hb, e1, beq_iff_eq]
   constructor
   ·intro h
    simp only [List.cons.injEq, and_true] at h
    exact ⟨_, by rw [e2, h]⟩
   ·intro ⟨l, e⟩
    rw [e2] at e
    have := (List.append_inj' e rfl).2
    exact this)
  clear e1 e2 h0
  replace hk := Lib.hid hk
  go_enter Tryz.func57, Tryz.ntmps57
  go_wp2_with fail
  go_ret
  exact ⟨⟨_, rfl, hR.out⟩, BW.refl _⟩
set_option maxRecDepth 100000 in
set_option maxHeartbeats 8000000 in
theorem icutsuf_any (S : ByteArray) (hS : S.size ≤ 1000000) (w : World) :
  Calls Tryz.prog 36 #[.string S, .string ⟨#[10]⟩] w fun e w' => CsR S e ∧ BW w w' := by
 have cH := Lib.hid (hassuf_any S hS w)
 go_enter Tryz.func36, Tryz.ntmps36
 go_wp2_with fail
 refine Calls.mono cH.out ?_
 rintro e w1 ⟨⟨b, rfl, hb⟩, hw⟩
 replace hw := Lib.hid hw
 clear cH
 dsimp only
 cases b with
 | false =>
  have hR : Hid (∀ l, S.data.toList ≠ l ++ [10]) := Lib.hid (fun l e => by have := hb.2 ⟨l, e⟩; cases this)
  clear hb
  go_wp2_with fail
  go_ret2
  exact ⟨.inr ⟨hR.out, rfl⟩, hw.out⟩
 | true =>
  obtain ⟨l, hl⟩ := hb.1 rfl
  clear hb
  obtain ⟨k, hk⟩ : ∃ k, S.size = k + 1 := ⟨l.length, by rw [ba_size, hl]; simp⟩
  obtain ⟨c, e1, e2⟩ := ext_last S k hk
  have hc : c = 10 := by
   rw [hl] at e2
   have := (List.append_inj' e2 rfl).2
   simp only [List.cons.injEq, and_true] at this
   exact this.symm
  subst hc
  have e3 : (S.size : Int) - 1 = (k : Int) := by omega
  have hks : k ≤ S.size := by omega
  replace e2 := Lib.hid e2
  clear hl e1
  replace hk := Lib.hid hk
  go_wp2_with fail
  go_ret2
  exact ⟨.inl ⟨_, e2.out, rfl⟩, hw.out⟩
set_option maxRecDepth 100000 in
set_option maxHeartbeats 8000000 in
theorem cutsuf_any (S : ByteArray) (hS : S.size ≤ 1000000) (w : World) :
  Calls Tryz.prog 19 #[.string S, .string ⟨#[10]⟩] w fun e w' => CsR S e ∧ BW w w' := by
 have cH := Lib.hid (icutsuf_any S hS w)
 go_enter Tryz.func19, Tryz.ntmps19
 go_wp2_with fail
 refine Calls.mono cH.out ?_
 rintro e w1 ⟨hR, hw⟩
 replace hw := Lib.hid hw
 clear cH
 rcases hR with ⟨T, hT, rfl⟩ | ⟨hT, rfl⟩
 ·replace hT := Lib.hid hT
  dsimp only
  go_wp2_with fail
  go_ret2
  exact ⟨.inl ⟨T, hT.out, rfl⟩, hw.out⟩
 ·replace hT := Lib.hid hT
  dsimp only
  go_wp2_with fail
  go_ret2
  exact ⟨.inr ⟨hT.out, rfl⟩, hw.out⟩
end Go.Proofs.YtafhnlnhflehhaaGreatDoor
