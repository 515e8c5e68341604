/- A text cut at a byte; the lines and words of an offer's text. Nothing of the program; no condition. The lines of an offer's text, and their words. Nothing of the program; no condition. An offer read line by line: what is there behind so many lines; a text is of at most one offer. Nothing of the program; no condition. -/
import Derived.Test.YtafhnlnhflehhaaGreatDoorOfY
namespace Go.Proofs.YtafhnlnhflehhaaGreatDoor
open Go.RowKit
abbrev BL := List UInt8
def cutB (c : UInt8) : BL → List BL
 | [] => [[]]
 | x :: l => if x = c then [] :: cutB c l else (x :: (cutB c l).headD []) :: (cutB c l).tail
theorem cutB_eq (c : UInt8) (l : BL) : cutB c (c :: l) = [] :: cutB c l := by rw [cutB, if_pos rfl]
theorem cutB_ne {c x : UInt8} (h : x ≠ c) (l : BL) : cutB c (x :: l) = (x :: (cutB c l).headD []) :: (cutB c l).tail := by rw [cutB, if_neg h]
theorem cutB_form (c : UInt8) : ∀ l, ∃ a r, cutB c l = a :: r
 | [] => ⟨[], [], rfl⟩
 | x :: l => by
  by_cases h : x = c
  ·subst h; exact ⟨_, _, cutB_eq _ _⟩
  ·exact ⟨_, _, cutB_ne h l⟩
theorem cutB_one {c : UInt8} : ∀ {l : BL}, (∀ x ∈ l, x ≠ c) → cutB c l = [l]
 | [], _ => rfl
 | x :: l, h => by rw [cutB_ne (h x (by simp)), cutB_one (fun y hy => h y (by simp [hy]))]; rfl
theorem cutB_app {c : UInt8} : ∀ {a : BL}, (∀ x ∈ a, x ≠ c) → ∀ l, cutB c (a ++ c :: l) = a :: cutB c l
 | [], _, l => cutB_eq c l
 | x :: a, h, l => by rw [List.cons_append, cutB_ne (h x (by simp)), cutB_app (fun y hy => h y (by simp [hy]))]; rfl
theorem cut_snoc (c x : UInt8) : ∀ (l : BL) (P : List BL) (cur : BL), cutB c l = P ++ [cur] → cutB c (l ++ [x]) = if x = c then P ++ [cur] ++ [[]] else P ++ [cur ++ [x]]
 | [], P, cur, h => by
  have h' : [[]] = P ++ [cur] := h
  cases P with
  | nil =>
   obtain rfl : cur = [] := by simpa using h'.symm
   by_cases e : x = c
   ·subst e; rw [if_pos rfl, List.nil_append, cutB_eq]; rfl
   ·rw [if_neg e, List.nil_append, cutB_ne e]; rfl
  | cons p P =>
   have := congrArg List.length h'
   simp at this
 | y :: l, P, cur, h => by
  obtain ⟨a, r, hf⟩ := cutB_form c l
  by_cases e : y = c
  ·subst e
   rw [cutB_eq] at h
   cases P with
   | nil =>
    rw [hf] at h
    have := congrArg List.length h
    simp at this
   | cons p P =>
    rw [List.cons_append] at h
    injection h with h1 h2
    subst h1
    rw [List.cons_append, cutB_eq, cut_snoc y x l P cur h2]
    split <;> rfl
  ·rw [cutB_ne e, hf] at h
   rw [List.cons_append, cutB_ne e]
   cases P with
   | nil =>
    rw [List.nil_append] at h
    injection h with h1 h2
    have h2' : r = [] := h2
    subst h2'
    rw [cut_snoc c x l [] a (by rw [hf]; rfl)]
    have h1' : cur = y :: a := h1.symm
    subst h1'
    split <;> rfl
   | cons p P =>
    rw [List.cons_append] at h
    injection h with h1 h2
    have h2' : r = P ++ [cur] := h2
    rw [cut_snoc c x l (a :: P) cur (by rw [hf, h2']; rfl)]
    have h1' : p = y :: a := h1.symm
    subst h1'
    split <;> rfl
def joinC (c : UInt8) : List BL → BL
 | [] => []
 | [a] => a
 | a :: b :: r => a ++ c :: joinC c (b :: r)
theorem joinC_cons {c : UInt8} {a : BL} {r : List BL} (h : r ≠ []) : joinC c (a :: r) = a ++ c :: joinC c r := by
 cases r with
 | nil => exact absurd rfl h
 | cons b r => rfl
theorem cut_join {c : UInt8} : ∀ {ps : List BL}, ps ≠ [] → (∀ p ∈ ps, ∀ x ∈ p, x ≠ c) → cutB c (joinC c ps) = ps
 | [], h, _ => absurd rfl h
 | [a], _, h => cutB_one (h a (by simp))
 | a :: b :: r, _, h => by
  rw [joinC_cons (by simp), cutB_app (h a (by simp)), cut_join (by simp) (fun p hp => h p (by simp [hp]))]
theorem join_cut (c : UInt8) : ∀ l : BL, joinC c (cutB c l) = l
 | [] => rfl
 | x :: l => by
  have ih := join_cut c l
  obtain ⟨a, r, hf⟩ := cutB_form c l
  rw [hf] at ih
  by_cases e : x = c
  ·subst e; rw [cutB_eq, hf, joinC_cons (by simp), ih]; rfl
  ·rw [cutB_ne e, hf]
   cases r with
   | nil => exact congrArg (x :: ·) ih
   | cons b r =>
    show joinC c ((x :: a) :: b :: r) = _
    rw [joinC_cons (by simp)]
    rw [joinC_cons (by simp)] at ih
    rw [← ih]; rfl
theorem joinC_flat (c : UInt8) : ∀ {ps : List BL}, ps ≠ [] → ps.flatMap (fun p => p ++ [c]) = joinC c ps ++ [c]
 | [], h => absurd rfl h
 | [a], _ => by simp [joinC]
 | a :: b :: r, _ => by
  rw [joinC_cons (by simp), List.flatMap_cons, joinC_flat c (ps := b :: r) (by simp)]
  simp
theorem joinC_lib (c : UInt8) : ∀ ps : List BL, Lib.join ps [c] = joinC c ps
 | [] => rfl
 | [a] => Lib.join_one a [c]
 | a :: b :: r => by
  rw [joinC_cons (by simp), ← joinC_lib c (b :: r), Lib.join_cons, Lib.join_cons]
  simp [Lib.joinTail]
/- Digits. -/
theorem dig_mem : ∀ (n : Nat) (x : UInt8), x ∈ Lib.decDigits n → 48 ≤ x.toNat ∧ x.toNat ≤ 57 := by
 intro n
 induction n using Nat.strongRecOn with
 | _ n ih =>
  intro x hx
  rw [Lib.decDigits] at hx
  split at hx
  ·obtain rfl := List.mem_singleton.1 hx
   rw [UInt8.toNat_ofNat']
   omega
  ·rcases List.mem_append.1 hx with hx | hx
   ·exact ih (n / 10) (by omega) x hx
   ·obtain rfl := List.mem_singleton.1 hx
    rw [UInt8.toNat_ofNat']
    omega
def valD (l : BL) : Nat := l.foldl (fun a x => 10 * a + (x.toNat - 48)) 0
theorem valD_snoc (l : BL) (x : UInt8) : valD (l ++ [x]) = 10 * valD l + (x.toNat - 48) := by unfold valD; rw [List.foldl_append]; rfl
theorem valD_dig : ∀ n : Nat, valD (Lib.decDigits n) = n := by
 intro n
 induction n using Nat.strongRecOn with
 | _ n ih =>
  rw [Lib.decDigits]
  split
  ·show 10 * 0 + _ = _
   rw [UInt8.toNat_ofNat']
   omega
  ·rw [valD_snoc, ih (n / 10) (by omega), UInt8.toNat_ofNat']
   omega
theorem dig_inj {m n : Nat} (h : Lib.decDigits m = Lib.decDigits n) : m = n := by rw [← valD_dig m, h, valD_dig]
theorem dig_ne (n : Nat) : Lib.decDigits n ≠ [] := fun h => by
 have := Lib.decDigits_length n
 rw [h] at this
 have := Lib.nDigits_pos n
 simp at *
 omega
theorem dig_no {n : Nat} {c : UInt8} (hc : c.toNat < 48) : ∀ x ∈ Lib.decDigits n, x ≠ c := fun x hx e => by
 have := (dig_mem n x hx).1
 rw [e] at this
 omega
end Go.Proofs.YtafhnlnhflehhaaGreatDoor

namespace Go.Proofs.YtafhnlnhflehhaaGreatDoor
open Go.RowKit
def kOffer : BL := [111, 102, 102, 101, 114]
def kTrack : BL := [116, 114, 97, 99, 107]
def kHear : BL := [104, 101, 97, 114]
def seatL (s : Int) : BL := joinC 32 [kOffer, dT s]
def wishL (x : WishD) : BL := joinC 32 [kTrack, dT x.t, codT x.c, srcT x.s]
def hearL (x : HearD) : BL := joinC 32 [kHear, dT x.o, dT x.t, layT x.l]
def linesOf (d : OffD) : List BL := seatL d.seat :: (d.W.map wishL ++ d.H.map hearL)
theorem srcT_join (l : List Nat) : srcT l = joinC 44 (l.map Lib.decDigits) := joinC_lib 44 _
theorem seatT_eq (s : Int) : seatT s = seatL s ++ [10] := by
 unfold seatT seatL
 show [111, 102, 102, 101, 114, 32] ++ dT s ++ [10] = kOffer ++ 32 :: dT s ++ [10]
 unfold kOffer
 simp
theorem wishT_eq (x : WishD) : wishT x = wishL x ++ [10] := by
 unfold wishT wishL
 show _ = kTrack ++ 32 :: (dT x.t ++ 32 :: (codT x.c ++ 32 :: srcT x.s)) ++ [10]
 unfold kTrack
 simp
theorem hearT_eq (x : HearD) : hearT x = hearL x ++ [10] := by
 unfold hearT hearL
 show _ = kHear ++ 32 :: (dT x.o ++ 32 :: (dT x.t ++ 32 :: layT x.l)) ++ [10]
 unfold kHear
 simp
theorem offT_lines (d : OffD) : offT d = joinC 10 (linesOf d) ++ [10] := by
 rw [← joinC_flat 10 (ps := linesOf d) (by simp [linesOf])]
 unfold offT linesOf
 rw [List.flatMap_cons, List.flatMap_append, seatT_eq, List.flatMap_map, List.flatMap_map]
 have e1 : d.W.flatMap wishT = d.W.flatMap fun x => wishL x ++ [10] := by congr 1; funext x; exact wishT_eq x
 have e2 : d.H.flatMap hearT = d.H.flatMap fun x => hearL x ++ [10] := by congr 1; funext x; exact hearT_eq x
 rw [e1, e2]
 simp
theorem joinT_mem (c : UInt8) : ∀ (ps : List BL) (x : UInt8), x ∈ joinC c ps → x = c ∨ ∃ p ∈ ps, x ∈ p
 | [], x, h => by cases h
 | [a], x, h => .inr ⟨a, by simp, h⟩
 | a :: b :: r, x, h => by
  rw [joinC_cons (by simp)] at h
  rcases List.mem_append.1 h with h | h
  ·exact .inr ⟨a, by simp, h⟩
  ·rcases List.mem_cons.1 h with h | h
   ·exact .inl h
   ·rcases joinT_mem c (b :: r) x h with h | ⟨p, hp, h⟩
    ·exact .inl h
    ·exact .inr ⟨p, List.mem_cons_of_mem _ hp, h⟩
theorem src_no {l : List Nat} {c : UInt8} (hc : c.toNat < 44) : ∀ x ∈ srcT l, x ≠ c := fun x hx e => by
 rw [srcT_join] at hx
 rcases joinT_mem 44 _ x hx with h | ⟨p, hp, h⟩
 ·rw [h] at e; rw [← e] at hc; exact absurd hc (by decide)
 ·obtain ⟨n, -, rfl⟩ := List.mem_map.1 hp
  exact dig_no (by omega) x h e
theorem cod_no (n : Int) {c : UInt8} (hc : c.toNat < 44) : ∀ x ∈ codT n, x ≠ c := fun x hx e => by
 subst e
 unfold codT at hx
 have key : ∀ l : BL, (∀ y ∈ l, 44 ≤ y.toNat) → x ∈ l → False := fun l h1 h2 => by have := h1 x h2; omega
 split at hx
 ·exact key _ (by decide) hx
 ·split at hx
  ·exact key _ (by decide) hx
  ·exact key _ (by decide) hx
theorem lay_no (n : Int) {c : UInt8} (hc : c.toNat < 44) : ∀ x ∈ layT n, x ≠ c := fun x hx e => by
 subst e
 unfold layT at hx
 split at hx
 ·obtain rfl := List.mem_singleton.1 hx
  exact absurd hc (by decide)
 ·exact dig_no (by omega) x hx rfl
theorem key_no {c : UInt8} (hc : c.toNat < 44) : (∀ x ∈ kOffer, x ≠ c) ∧ (∀ x ∈ kTrack, x ≠ c) ∧ (∀ x ∈ kHear, x ≠ c) := by
 have key : ∀ l : BL, (∀ y ∈ l, 44 ≤ y.toNat) → ∀ x ∈ l, x ≠ c := fun l h1 x h2 e => by have := h1 x h2; rw [e] at this; omega
 exact ⟨key _ (by decide), key _ (by decide), key _ (by decide)⟩
theorem dT_no (n : Int) {c : UInt8} (hc : c.toNat < 44) : ∀ x ∈ dT n, x ≠ c := dig_no (by omega)
theorem words_seat (s : Int) : cutB 32 (seatL s) = [kOffer, dT s] := cut_join (by simp) fun p hp => by
 simp only [List.mem_cons, List.not_mem_nil, or_false] at hp
 rcases hp with rfl | rfl
 ·exact (key_no (by decide)).1
 ·exact dT_no _ (by decide)
theorem words_wish (x : WishD) : cutB 32 (wishL x) = [kTrack, dT x.t, codT x.c, srcT x.s] := cut_join (by simp) fun p hp => by
 simp only [List.mem_cons, List.not_mem_nil, or_false] at hp
 rcases hp with rfl | rfl | rfl | rfl
 ·exact (key_no (by decide)).2.1
 ·exact dT_no _ (by decide)
 ·exact cod_no _ (by decide)
 ·exact src_no (by decide)
theorem words_hear (x : HearD) : cutB 32 (hearL x) = [kHear, dT x.o, dT x.t, layT x.l] := cut_join (by simp) fun p hp => by
 simp only [List.mem_cons, List.not_mem_nil, or_false] at hp
 rcases hp with rfl | rfl | rfl | rfl
 ·exact (key_no (by decide)).2.2
 ·exact dT_no _ (by decide)
 ·exact dT_no _ (by decide)
 ·exact lay_no _ (by decide)
theorem words_src {l : List Nat} (h : l ≠ []) : cutB 44 (srcT l) = l.map Lib.decDigits := by
 rw [srcT_join]
 refine cut_join (by simpa using h) fun p hp => ?_
 obtain ⟨n, -, rfl⟩ := List.mem_map.1 hp
 exact dig_no (by decide)
theorem line_no {d : OffD} : ∀ p ∈ linesOf d, ∀ x ∈ p, x ≠ 10 := by
 have key : ∀ ps : List BL, (∀ q ∈ ps, ∀ x ∈ q, x ≠ (10 : UInt8)) → ∀ x ∈ joinC 32 ps, x ≠ 10 := fun ps h x hx e => by
  rcases joinT_mem 32 ps x hx with h1 | ⟨q, hq, h1⟩
  ·rw [h1] at e; exact absurd e (by decide)
  ·exact h q hq x h1 e
 intro p hp
 unfold linesOf at hp
 rcases List.mem_cons.1 hp with rfl | hp
 ·refine key _ fun q hq => ?_
  simp only [List.mem_cons, List.not_mem_nil, or_false] at hq
  rcases hq with rfl | rfl
  ·exact (key_no (by decide)).1
  ·exact dT_no _ (by decide)
 ·rcases List.mem_append.1 hp with hp | hp
  ·obtain ⟨x, -, rfl⟩ := List.mem_map.1 hp
   refine key _ fun q hq => ?_
   simp only [List.mem_cons, List.not_mem_nil, or_false] at hq
   rcases hq with rfl | rfl | rfl | rfl
   ·exact (key_no (by decide)).2.1
   ·exact dT_no _ (by decide)
   ·exact cod_no _ (by decide)
   ·exact src_no (by decide)
  ·obtain ⟨x, -, rfl⟩ := List.mem_map.1 hp
   refine key _ fun q hq => ?_
   simp only [List.mem_cons, List.not_mem_nil, or_false] at hq
   rcases hq with rfl | rfl | rfl | rfl
   ·exact (key_no (by decide)).2.2
   ·exact dT_no _ (by decide)
   ·exact dT_no _ (by decide)
   ·exact lay_no _ (by decide)
theorem cut_lines (d : OffD) : cutB 10 (joinC 10 (linesOf d)) = linesOf d := cut_join (by simp [linesOf]) line_no
theorem cut_offT (d : OffD) : cutB 10 (offT d) = linesOf d ++ [[]] := by
 have h := cut_join (c := 10) (ps := linesOf d ++ [[]]) (by simp) (fun p hp => by
  rcases List.mem_append.1 hp with hp | hp
  ·exact line_no p hp
  ·obtain rfl := List.mem_singleton.1 hp
   intro x hx; cases hx)
 have e : ∀ ps : List BL, ps ≠ [] → joinC 10 (ps ++ [[]]) = joinC 10 ps ++ [10] := by
  intro ps
  induction ps with
  | nil => intro h; exact absurd rfl h
  | cons a r ih =>
   intro _
   cases r with
   | nil => simp [joinC]
   | cons b r =>
    rw [List.cons_append, joinC_cons (by simp), joinC_cons (by simp), ih (by simp)]
    simp
 rw [offT_lines, ← e _ (by simp [linesOf])]
 exact h
theorem line_seat {l : BL} {n : Nat} (h : cutB 32 l = [kOffer, Lib.decDigits n]) : l = seatL (n : Nat) := by
 rw [← join_cut 32 l, h]; rfl
theorem line_wish {l : BL} {t : Nat} {c : Int} {s : List Nat} {src : BL} (h : cutB 32 l = [kTrack, Lib.decDigits t, codT c, src]) (hs : cutB 44 src = s.map Lib.decDigits) : l = wishL ⟨(t : Nat), c, s⟩ := by
 rw [← join_cut 32 l, h, ← join_cut 44 src, hs, ← srcT_join]; rfl
theorem line_hear {l : BL} {o t : Nat} {ly : Int} (h : cutB 32 l = [kHear, Lib.decDigits o, Lib.decDigits t, layT ly]) : l = hearL ⟨(o : Nat), (t : Nat), ly⟩ := by
 rw [← join_cut 32 l, h]; rfl
end Go.Proofs.YtafhnlnhflehhaaGreatDoor

namespace Go.Proofs.YtafhnlnhflehhaaGreatDoor
open Go.RowKit
def partO (o : OffD) (i : Nat) : OffD := ⟨if i = 0 then 0 else o.seat, o.W.take (i - 1), o.H.take (i - 1 - o.W.length)⟩
theorem part_zero (o : OffD) : partO o 0 = ⟨0, [], []⟩ := by unfold partO; simp
theorem part_one (o : OffD) : partO o 1 = ⟨o.seat, [], []⟩ := by unfold partO; simp
theorem part_wish (o : OffD) {j : Nat} (h : j < o.W.length) : partO o (j + 2) = ⟨(partO o (j + 1)).seat, (partO o (j + 1)).W ++ [wi o.W j], (partO o (j + 1)).H⟩ := by
 unfold partO
 simp only [Nat.add_sub_cancel, Nat.succ_ne_zero, if_false]
 rw [show j + 2 - 1 = j + 1 by omega, List.take_succ_eq_append_getElem h, wi_get h, show j + 1 - o.W.length = 0 by omega, show j - o.W.length = 0 by omega]
theorem part_hear (o : OffD) {j : Nat} (h : j < o.H.length) : partO o (o.W.length + j + 2) = ⟨(partO o (o.W.length + j + 1)).seat, (partO o (o.W.length + j + 1)).W, (partO o (o.W.length + j + 1)).H ++ [he o.H j]⟩ := by
 unfold partO
 simp only [Nat.add_sub_cancel, Nat.succ_ne_zero, if_false]
 rw [show o.W.length + j + 2 - 1 = o.W.length + j + 1 by omega, show o.W.length + j + 1 - o.W.length = j + 1 by omega, show o.W.length + j - o.W.length = j by omega, List.take_succ_eq_append_getElem h, he_get h, List.take_of_length_le (l := o.W) (by omega), List.take_of_length_le (l := o.W) (by omega)]
theorem part_all (o : OffD) {i : Nat} (h : o.W.length + o.H.length + 1 ≤ i) : partO o i = o := by
 unfold partO
 rw [if_neg (by omega), List.take_of_length_le (l := o.W) (by omega), List.take_of_length_le (l := o.H) (by omega)]
inductive LineK (o : OffD) (i : Nat) (ws : List BL) : Prop
 | seat (h : i = 0) (e : ws = [kOffer, dT o.seat])
 | wish (j : Nat) (hj : j < o.W.length) (h : i = j + 1) (e : ws = [kTrack, dT (wi o.W j).t, codT (wi o.W j).c, srcT (wi o.W j).s])
 | hear (j : Nat) (hj : j < o.H.length) (h : i = o.W.length + j + 1) (e : ws = [kHear, dT (he o.H j).o, dT (he o.H j).t, layT (he o.H j).l])
 | last (h : i = o.W.length + o.H.length + 1) (e : ws = [[]])
theorem lineK (o : OffD) {i : Nat} {l : BL} (h : (linesOf o ++ [[]])[i]? = some l) : LineK o i (cutB 32 l) := by
 unfold linesOf at h
 cases i with
 | zero =>
  simp at h
  subst h
  exact .seat rfl (words_seat _)
 | succ i =>
  rw [List.cons_append, List.getElem?_cons_succ, List.append_assoc] at h
  by_cases hw : i < o.W.length
  ·rw [List.getElem?_append_left (by simpa using hw)] at h
   simp only [List.getElem?_map, List.getElem?_eq_getElem hw, Option.map_some, Option.some.injEq] at h
   subst h
   refine .wish i hw rfl ?_
   rw [wi_get hw]; exact words_wish _
  ·rw [List.getElem?_append_right (by simpa using Nat.le_of_not_lt hw), List.length_map] at h
   by_cases hh : i - o.W.length < o.H.length
   ·rw [List.getElem?_append_left (by simpa using hh)] at h
    simp only [List.getElem?_map, List.getElem?_eq_getElem hh, Option.map_some, Option.some.injEq] at h
    subst h
    refine .hear (i - o.W.length) hh (by omega) ?_
    rw [he_get hh]; exact words_hear _
   ·rw [List.getElem?_append_right (by simpa using Nat.le_of_not_lt hh), List.length_map] at h
    obtain ⟨h1, h2⟩ := List.getElem?_eq_some_iff.1 h
    have h1' : i - o.W.length - o.H.length = 0 := by simpa using h1
    have : l = [] := by rw [← h2]; simp [h1']
    subst this
    exact .last (by omega) rfl
theorem lines_len (o : OffD) : (linesOf o ++ [[]]).length = o.W.length + o.H.length + 2 := by
 unfold linesOf; simp; omega
theorem codT_inj {a b : Int} (ha : 0 ≤ a ∧ a < 3) (hb : 0 ≤ b ∧ b < 3) (h : codT a = codT b) : a = b := by
 have key : ∀ x : Int, 0 ≤ x ∧ x < 3 → x = 0 ∨ x = 1 ∨ x = 2 := fun x hx => by omega
 rcases key a ha with rfl | rfl | rfl <;> rcases key b hb with rfl | rfl | rfl <;> first | rfl | exact absurd h (by decide)
theorem dT_inj {a b : Int} (ha : 0 ≤ a) (hb : 0 ≤ b) (h : dT a = dT b) : a = b := by
 have := dig_inj h
 omega
theorem layT_inj {a b : Int} (ha : -1 ≤ a) (hb : -1 ≤ b) (h : layT a = layT b) : a = b := by
 unfold layT at h
 by_cases e1 : a = -1
 ·rw [if_pos e1] at h
  by_cases e2 : b = -1
  ·omega
  ·rw [if_neg e2] at h
   have := dig_mem b.toNat 45 (by show 45 ∈ dT b; rw [← h]; simp)
   exact absurd this.1 (by decide)
 ·rw [if_neg e1] at h
  by_cases e2 : b = -1
  ·rw [if_pos e2] at h
   have := dig_mem a.toNat 45 (by show 45 ∈ dT a; rw [h]; simp)
   exact absurd this.1 (by decide)
  ·rw [if_neg e2] at h
   exact dT_inj (by omega) (by omega) h
theorem map_dig_inj : ∀ {a b : List Nat}, a.map Lib.decDigits = b.map Lib.decDigits → a = b
 | [], [], _ => rfl
 | [], y :: b, h => by simp at h
 | x :: a, [], h => by simp at h
 | x :: a, y :: b, h => by
  simp only [List.map_cons, List.cons.injEq] at h
  rw [dig_inj h.1, map_dig_inj h.2]
theorem srcT_inj {a b : List Nat} (ha : a ≠ []) (hb : b ≠ []) (h : srcT a = srcT b) : a = b := by
 have := words_src ha
 rw [h, words_src hb] at this
 exact (map_dig_inj this).symm
theorem wish_inj {x y : WishD} (hx : 0 ≤ x.t ∧ (0 ≤ x.c ∧ x.c < 3) ∧ x.s ≠ []) (hy : 0 ≤ y.t ∧ (0 ≤ y.c ∧ y.c < 3) ∧ y.s ≠ []) (h1 : dT x.t = dT y.t) (h2 : codT x.c = codT y.c) (h3 : srcT x.s = srcT y.s) : x = y := by
 obtain ⟨t, c, s⟩ := x
 obtain ⟨t', c', s'⟩ := y
 have e1 := dT_inj hx.1 hy.1 h1
 have e2 := codT_inj hx.2.1 hy.2.1 h2
 have e3 := srcT_inj hx.2.2 hy.2.2 h3
 simp only at e1 e2 e3
 rw [e1, e2, e3]
theorem okW_inj {W : List WishD} {j : Nat} (h : OkW W j) : 0 ≤ (wi W j).t ∧ (0 ≤ (wi W j).c ∧ (wi W j).c < 3) ∧ (wi W j).s ≠ [] := by
 obtain ⟨h1, h2, -, h3⟩ := h
 exact ⟨h1.1, h2, fun e => by rw [e] at h3; simp at h3⟩
theorem offT_inj {a b : OffD} (ha : MayO a) (hb : MayO b) (h : offT a = offT b) : a = b := by
 have hl : linesOf a ++ [[]] = linesOf b ++ [[]] := by rw [← cut_offT, ← cut_offT, h]
 have hlen : a.W.length + a.H.length = b.W.length + b.H.length := by
  have := congrArg List.length hl
  rw [lines_len, lines_len] at this
  omega
 have key : ∀ i, i < a.W.length + a.H.length + 2 → ∃ ws, LineK a i ws ∧ LineK b i ws := fun i hi => by
  have h1 : (linesOf a ++ [[]])[i]? = some ((linesOf a ++ [[]])[i]'(by rw [lines_len]; exact hi)) := List.getElem?_eq_getElem _
  exact ⟨_, lineK a h1, lineK b (by rw [← hl]; exact h1)⟩
 have kOT : kOffer ≠ kTrack := by decide
 have kOH : kOffer ≠ kHear := by decide
 have kTH : kTrack ≠ kHear := by decide
 have hs : a.seat = b.seat := by
  obtain ⟨ws, h1, h2⟩ := key 0 (by omega)
  cases h1 with
  | seat _ e =>
   cases h2 with
   | seat _ e' =>
    rw [e] at e'
    simp only [List.cons.injEq, and_true, true_and] at e'
    exact dT_inj ha.1.1 hb.1.1 e'
   | wish j _ hj => omega
   | hear j _ hj => omega
   | last hj => omega
  | wish j _ hj => omega
  | hear j _ hj => omega
  | last hj => omega
 have hW : a.W.length = b.W.length := by
  have side : ∀ {x y : OffD}, x.W.length + x.H.length = y.W.length + y.H.length → (∀ i, i < x.W.length + x.H.length + 2 → ∃ ws, LineK x i ws ∧ LineK y i ws) → x.W.length ≤ y.W.length := fun {x y} hxy hk => by
   apply Nat.le_of_not_lt
   intro hlt
   obtain ⟨ws, h1, h2⟩ := hk (y.W.length + 1) (by omega)
   cases h1 with
   | seat h => omega
   | wish j hj hi e =>
    cases h2 with
    | seat h => omega
    | wish j' hj' hi' => omega
    | hear j' _ _ e' => rw [e] at e'; simp only [List.cons.injEq] at e'; exact absurd e'.1 kTH
    | last _ e' => rw [e] at e'; simp at e'
   | hear j hj hi => omega
   | last hi => omega
  exact Nat.le_antisymm (side hlen key) (side hlen.symm (fun i hi => by
   obtain ⟨ws, h1, h2⟩ := key i (by omega)
   exact ⟨ws, h2, h1⟩))
 have eW : a.W = b.W := List.ext_getElem hW fun j h1 h2 => by
  obtain ⟨ws, k1, k2⟩ := key (j + 1) (by omega)
  have w1 := okW_inj (ha.2.1.1 j h1)
  have w2 := okW_inj (hb.2.1.1 j h2)
  cases k1 with
  | seat h => omega
  | wish j' hj' hi e =>
   obtain rfl : j = j' := by omega
   cases k2 with
   | seat h => omega
   | wish j'' hj'' hi' e' =>
    obtain rfl : j = j'' := by omega
    rw [e] at e'
    simp only [List.cons.injEq, and_true, true_and] at e'
    have := wish_inj w1 w2 e'.1 e'.2.1 e'.2.2
    rwa [wi_get h1, wi_get h2] at this
   | hear j'' _ hi' => omega
   | last hi' => omega
  | hear j' _ hi => omega
  | last hi => omega
 have eH : a.H = b.H := List.ext_getElem (by omega) fun j h1 h2 => by
  obtain ⟨ws, k1, k2⟩ := key (a.W.length + j + 1) (by omega)
  have w1 := ha.2.2.1 j h1
  have w2 := hb.2.2.1 j h2
  cases k1 with
  | seat h => omega
  | wish j' _ hi => omega
  | hear j' hj' hi e =>
   obtain rfl : j = j' := by omega
   cases k2 with
   | seat h => omega
   | wish j'' _ hi' => omega
   | hear j'' hj'' hi' e' =>
    obtain rfl : j = j'' := by omega
    rw [e] at e'
    simp only [List.cons.injEq, and_true, true_and] at e'
    have q1 := dT_inj w1.1.1 w2.1.1 e'.1
    have q2 := dT_inj w1.2.1.1 w2.2.1.1 e'.2.1
    have q3 := layT_inj w1.2.2.1.1 w2.2.2.1.1 e'.2.2
    rw [he_get h1] at q1 q2 q3
    rw [he_get h2] at q1 q2 q3
    generalize a.H[j] = x at *
    generalize b.H[j] = y at *
    obtain ⟨x1, x2, x3⟩ := x
    obtain ⟨y1, y2, y3⟩ := y
    simp only at q1 q2 q3
    rw [q1, q2, q3]
   | last hi' => omega
  | last hi => omega
 obtain ⟨sa, Wa, Ha⟩ := a
 obtain ⟨sb, Wb, Hb⟩ := b
 simp only at hs eW eH
 rw [hs, eW, eH]
end Go.Proofs.YtafhnlnhflehhaaGreatDoor
