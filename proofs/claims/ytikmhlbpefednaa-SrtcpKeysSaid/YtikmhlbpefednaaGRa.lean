/- Packets of media as plain data; what bytes are which packet. Nothing of the program; no condition. What bytes any packet of media is written as; written and read again, read and written again. Nothing of the program; no condition. -/
import Derived.Test.YtikmhlbpefednaaGKi
import Derived.Test.YtikmhlbpefednaaGRn
import Derived.Test.YtikmhlbpefednaaGBa
namespace Go.Proofs.Ytikmhlbpefednaa
open Go.RowKit

structure RtpD where
  marker : Bool
  typ : Nat
  seq : Nat
  stamp : Nat
  source : Nat
  others : List Nat
  ext : Bool
  profile : Nat
  extra : List Nat
  payload : List Nat
  pad : Nat
def rZero : RtpD := ⟨false, 0, 0, 0, 0, [], false, 0, [], [], 0⟩
/-- The number of n bytes from a place on. -/
def nm (l : List Nat) (a n : Nat) : Nat := numB ((l.drop a).take n)
theorem nm_lt (l : List Nat) (h : ByL l) (a n : Nat) : nm l a n < 256 ^ n := by
  have h1 := numB_lt ((l.drop a).take n) (fun x hx => ((h.drop a).take n) x hx)
  have h2 : ((l.drop a).take n).length ≤ n := List.length_take_le _ _
  exact Nat.lt_of_lt_of_le h1 (Nat.pow_le_pow_right (by decide) h2)
def rOthers (l : List Nat) (k : Nat) : List Nat := (List.range k).map fun i => nm l (12 + 4 * i) 4
theorem rOthers_len (l : List Nat) (k : Nat) : (rOthers l k).length = k := by simp [rOthers]
theorem rOthers_snoc (l : List Nat) (k : Nat) : rOthers l k ++ [nm l (12 + 4 * k) 4] = rOthers l (k + 1) := by simp [rOthers, List.range_succ]
/-- The extension from a place on: an error's number, or where it ends, its profile, its bytes. -/
def rExt (l : List Nat) (is : Bool) (a : Nat) : Nat × Nat × Nat × List Nat :=
  if is then
    if l.length < a + 4 then (2, 0, 0, [])
    else if l.length < a + 4 + 4 * nm l (a + 2) 2 then (2, 0, 0, [])
    else if 255 < nm l (a + 2) 2 then (3, 0, 0, [])
    else (0, a + 4 + 4 * nm l (a + 2) 2, nm l a 2, (l.drop (a + 4)).take (4 * nm l (a + 2) 2))
  else (0, a, 0, [])
/-- The padding of a payload: none: it may not be. -/
def rPad (is : Bool) (p : List Nat) : Option Nat :=
  if is then (if p.length = 0 ∨ p.getD (p.length - 1) 0 = 0 ∨ p.length < p.getD (p.length - 1) 0 then none else some (p.getD (p.length - 1) 0)) else some 0
/-- What bytes are: an error's number, how many are ahead of the payload, the packet. -/
def readN (l : List Nat) : Nat × Nat × RtpD :=
  if 1200 < l.length then (3, 0, rZero)
  else if l.length < 12 then (2, 0, rZero)
  else if l.getD 0 0 / 64 ≠ 2 then (3, 0, rZero)
  else if l.length < 12 + 4 * (l.getD 0 0 % 16) then (2, 0, rZero)
  else
    let x := rExt l (l.getD 0 0 / 16 % 2 == 1) (12 + 4 * (l.getD 0 0 % 16))
    if x.1 ≠ 0 then (x.1, 0, rZero)
    else match rPad (l.getD 0 0 / 32 % 2 == 1) (l.drop x.2.1) with
      | none => (3, 0, rZero)
      | some p => (0, x.2.1, ⟨l.getD 1 0 / 128 == 1, l.getD 1 0 % 128, nm l 2 2, nm l 4 4, nm l 8 4, rOthers l (l.getD 0 0 % 16), l.getD 0 0 / 16 % 2 == 1, x.2.2.1, x.2.2.2, (l.drop x.2.1).take (l.length - x.2.1 - p), p⟩)
end Go.Proofs.Ytikmhlbpefednaa

namespace Go.Proofs.Ytikmhlbpefednaa
open Go.RowKit

structure RtpWf (d : RtpD) : Prop where
  typ : d.typ < 256
  seq : d.seq < 65536
  stamp : d.stamp < 4294967296
  source : d.source < 4294967296
  others : ∀ x ∈ d.others, x < 4294967296
  profile : d.profile < 65536
  extra : ByL d.extra
  payload : ByL d.payload
  pad : d.pad < 256

def mayN (d : RtpD) : Bool := decide (d.typ < 128 ∧ d.others.length ≤ 15 ∧ d.extra.length % 4 = 0 ∧ d.extra.length ≤ 1020 ∧ (d.ext = true ∨ (d.extra.length = 0 ∧ d.profile = 0)))
def firstB (d : RtpD) : Nat := 128 + (if 0 < d.pad then 32 else 0) + (if d.ext then 16 else 0) + d.others.length
def secondN (d : RtpD) : Nat := d.typ + (if d.marker then 128 else 0)
def headN (d : RtpD) : List Nat := [firstB d, secondN d] ++ (putB 2 d.seq ++ (putB 4 d.stamp ++ putB 4 d.source))
def othN (l : List Nat) : List Nat := l.flatMap (putB 4)
def extN (d : RtpD) : List Nat := if d.ext then putB 2 d.profile ++ (putB 2 (d.extra.length / 4) ++ d.extra) else []
def padN (p : Nat) : List Nat := if 0 < p then zeros (p - 1) ++ [p] else []
def bytesN (d : RtpD) : List Nat := headN d ++ (othN d.others ++ (extN d ++ (d.payload ++ padN d.pad)))
/-- The bytes of a packet; none: it may not be. -/
def writeN (d : RtpD) : Option (List Nat) := if mayN d = true ∧ (bytesN d).length ≤ 1200 then some (bytesN d) else none

theorem headN_len (d : RtpD) : (headN d).length = 12 := by simp [headN, putB_len]
theorem othN_len (l : List Nat) : (othN l).length = 4 * l.length := by
  induction l with
  | nil => rfl
  | cons x l ih => simp [othN, putB_len] at ih ⊢; omega
theorem othN_snoc (l : List Nat) (x : Nat) : othN (l ++ [x]) = othN l ++ putB 4 x := by simp [othN]
theorem padN_len (p : Nat) : (padN p).length = p := by
  unfold padN
  split
  · simp [zeros_len]; omega
  · simp; omega
theorem extN_len (d : RtpD) : (extN d).length = if d.ext then 4 + d.extra.length else 0 := by
  unfold extN
  split <;> simp [putB_len]; omega
theorem zeros_byL (n : Nat) : ByL (zeros n) := fun x hx => by
  have := (List.mem_replicate.1 hx).2
  omega
theorem padN_byt (p : Nat) (h : p < 256) : ByL (padN p) := by
  unfold padN
  split
  · exact (zeros_byL _).append (fun x hx => by simp at hx; omega)
  · intro x hx; cases hx
theorem othN_byt (l : List Nat) : ByL (othN l) := fun x hx => by
  obtain ⟨a, _, h⟩ := List.mem_flatMap.1 hx
  exact putB_byt 4 a x h
theorem firstB_lt (d : RtpD) (h : mayN d = true) : firstB d < 256 := by
  have := of_decide_eq_true h
  unfold firstB
  split <;> split <;> omega
theorem secondN_lt (d : RtpD) (h : mayN d = true) : secondN d < 256 := by
  have := of_decide_eq_true h
  unfold secondN
  split <;> omega
theorem headN_byt (d : RtpD) (h : mayN d = true) : ByL (headN d) := by
  refine ByL.append (fun x hx => ?_) (ByL.append (putB_byt _ _) (ByL.append (putB_byt _ _) (putB_byt _ _)))
  have := firstB_lt d h
  have := secondN_lt d h
  simp at hx
  omega
theorem extN_byt (d : RtpD) (h : ByL d.extra) : ByL (extN d) := by
  unfold extN
  split
  · exact ByL.append (putB_byt _ _) (ByL.append (putB_byt _ _) h)
  · intro x hx; cases hx
theorem bytesN_byt (d : RtpD) (w : RtpWf d) (h : mayN d = true) : ByL (bytesN d) :=
  ByL.append (headN_byt d h) (ByL.append (othN_byt _) (ByL.append (extN_byt d w.extra) (ByL.append w.payload (padN_byt _ w.pad))))

theorem dropAt {A B : List Nat} {a : Nat} (h : A.length = a) : (A ++ B).drop a = B := by
  rw [List.drop_append_of_le_length (by omega), List.drop_of_length_le (by omega), List.nil_append]
theorem takeAt {A B : List Nat} {a : Nat} (h : A.length = a) : (A ++ B).take a = A := by
  rw [List.take_append_of_le_length (by omega), List.take_of_length_le (by omega)]
theorem nmAt {A B : List Nat} {a n x : Nat} (h : A.length = a) (hx : x < 256 ^ n) : nm (A ++ (putB n x ++ B)) a n = x := by
  unfold nm
  rw [dropAt h, takeAt (putB_len _ _), numB_putB, Nat.mod_eq_of_lt hx]
theorem nmSkip {A B : List Nat} {a b n : Nat} (h : A.length = a) : nm (A ++ B) (a + b) n = nm B b n := by
  unfold nm
  rw [← List.drop_drop, dropAt h]
theorem nmIn {A B : List Nat} {b n : Nat} (h : b + n ≤ A.length) : nm (A ++ B) b n = nm A b n := by
  unfold nm
  rw [List.drop_append_of_le_length (by omega), List.take_append_of_le_length (by rw [List.length_drop]; omega)]
theorem oth_get : ∀ (l : List Nat) (i : Nat) (h : i < l.length), l[i] < 4294967296 → nm (othN l) (4 * i) 4 = l[i]
  | x :: l, 0, _, hx => by
    show nm (putB 4 x ++ othN l) 0 4 = x
    have := nmAt (A := []) (B := othN l) (a := 0) (n := 4) (x := x) rfl hx
    exact this
  | x :: l, i + 1, h, hx => by
    have h' : i < l.length := by simpa using h
    show nm (putB 4 x ++ othN l) (4 * (i + 1)) 4 = l[i]
    rw [show 4 * (i + 1) = 4 + 4 * i by omega, nmSkip (putB_len _ _)]
    exact oth_get l i h' hx
theorem rOthers_back (H l R : List Nat) (hH : H.length = 12) (hl : ∀ x ∈ l, x < 4294967296) : rOthers (H ++ (othN l ++ R)) l.length = l := by
  apply List.ext_getElem (rOthers_len _ _)
  intro i h1 h2
  simp only [rOthers, List.getElem_map, List.getElem_range]
  rw [nmSkip hH, nmIn (by rw [othN_len]; omega), oth_get l i h2 (hl _ (List.getElem_mem _))]

/-- What is written is read. -/
theorem read_write (d : RtpD) (w : RtpWf d) (h : mayN d = true) (hl : (bytesN d).length ≤ 1200) : readN (bytesN d) = (0, 12 + 4 * d.others.length + (extN d).length, d) := by
  have hm := of_decide_eq_true h
  have hlen : (bytesN d).length = 12 + (4 * d.others.length + ((extN d).length + (d.payload.length + d.pad))) := by
    unfold bytesN
    rw [List.length_append, List.length_append, List.length_append, List.length_append, headN_len, othN_len, padN_len]
  have g0 : (bytesN d).getD 0 0 = firstB d := rfl
  have g1 : (bytesN d).getD 1 0 = secondN d := rfl
  have f64 : firstB d / 64 = 2 := by unfold firstB; split <;> split <;> omega
  have f16 : firstB d % 16 = d.others.length := by unfold firstB; split <;> split <;> omega
  have fx : (firstB d / 16 % 2 == 1) = d.ext := by
    unfold firstB
    cases d.ext <;> split <;> simp <;> omega
  have fp : (firstB d / 32 % 2 == 1) = decide (0 < d.pad) := by
    unfold firstB
    by_cases hp : 0 < d.pad
    · rw [if_pos hp, decide_eq_true hp]; split <;> simp <;> omega
    · rw [if_neg hp, decide_eq_false hp]; split <;> simp <;> omega
  have s1 : (secondN d / 128 == 1) = d.marker := by
    unfold secondN
    cases d.marker <;> simp <;> omega
  have s2 : secondN d % 128 = d.typ := by unfold secondN; split <;> omega
  have n2 : nm (bytesN d) 2 2 = d.seq := nmAt (A := [firstB d, secondN d]) rfl w.seq
  have n4 : nm (bytesN d) 4 4 = d.stamp := by
    have := nmAt (A := [firstB d, secondN d] ++ putB 2 d.seq) (B := putB 4 d.source ++ (othN d.others ++ (extN d ++ (d.payload ++ padN d.pad)))) (a := 4) (n := 4) (x := d.stamp) (by simp [putB_len]) w.stamp
    rw [← this]; simp only [bytesN, headN, List.append_assoc]
  have n8 : nm (bytesN d) 8 4 = d.source := by
    have := nmAt (A := [firstB d, secondN d] ++ putB 2 d.seq ++ putB 4 d.stamp) (B := othN d.others ++ (extN d ++ (d.payload ++ padN d.pad))) (a := 8) (n := 4) (x := d.source) (by simp [putB_len]) w.source
    rw [← this]; simp only [bytesN, headN, List.append_assoc]
  have ro : rOthers (bytesN d) d.others.length = d.others := rOthers_back _ _ _ (headN_len d) w.others
  have hho : (headN d ++ othN d.others).length = 12 + 4 * d.others.length := by rw [List.length_append, headN_len, othN_len]
  have hdr : ∀ b, (bytesN d).drop (12 + 4 * d.others.length + b) = (extN d ++ (d.payload ++ padN d.pad)).drop b := fun b => by
    have e : bytesN d = (headN d ++ othN d.others) ++ (extN d ++ (d.payload ++ padN d.pad)) := by simp only [bytesN, List.append_assoc]
    rw [← List.drop_drop, e, dropAt hho]
  have hre : rExt (bytesN d) d.ext (12 + 4 * d.others.length) = (0, 12 + 4 * d.others.length + (extN d).length, d.profile, d.extra) := by
    by_cases hx : d.ext = true
    · have ee : extN d = putB 2 d.profile ++ (putB 2 (d.extra.length / 4) ++ d.extra) := by unfold extN; rw [if_pos hx]
      have el : (extN d).length = 4 + d.extra.length := by rw [extN_len, if_pos hx]
      have m1 : nm (bytesN d) (12 + 4 * d.others.length) 2 = d.profile := by
        unfold nm
        rw [show 12 + 4 * d.others.length = 12 + 4 * d.others.length + 0 from rfl, hdr 0, List.drop_zero, ee, List.append_assoc, takeAt (putB_len _ _), numB_putB, Nat.mod_eq_of_lt w.profile]
      have m2 : nm (bytesN d) (12 + 4 * d.others.length + 2) 2 = d.extra.length / 4 := by
        unfold nm
        rw [hdr 2, ee, List.append_assoc, dropAt (putB_len _ _), List.append_assoc, takeAt (putB_len _ _), numB_putB, Nat.mod_eq_of_lt]
        have := hm.2.2.2.1
        omega
      have m3 : ((bytesN d).drop (12 + 4 * d.others.length + 4)).take (4 * (d.extra.length / 4)) = d.extra := by
        rw [hdr 4, ee, List.append_assoc, List.append_assoc]
        rw [show 4 = 2 + 2 from rfl, ← List.drop_drop, dropAt (putB_len _ _), dropAt (putB_len _ _)]
        exact takeAt (by omega)
      unfold rExt
      rw [if_pos hx, hlen, m2, if_neg (by omega), if_neg (by omega), if_neg (by omega), m1, m3, el]
      congr 2
      omega
    · have hx' : d.ext = false := by simpa using hx
      have hz := hm.2.2.2.2.resolve_left hx
      unfold rExt
      rw [if_neg (by rw [hx']; decide), extN_len, if_neg (by rw [hx']; decide), hz.2, List.eq_nil_of_length_eq_zero hz.1]
      rfl
  have hpd : rPad (decide (0 < d.pad)) (d.payload ++ padN d.pad) = some d.pad := by
    unfold rPad
    by_cases hp : 0 < d.pad
    · have hL : (d.payload ++ padN d.pad).length = d.payload.length + d.pad := by rw [List.length_append, padN_len]
      have hlast : (d.payload ++ padN d.pad).getD ((d.payload ++ padN d.pad).length - 1) 0 = d.pad := by
        rw [hL]
        have : padN d.pad = zeros (d.pad - 1) ++ [d.pad] := by unfold padN; rw [if_pos hp]
        rw [this, ← List.append_assoc, List.getD_eq_getElem?_getD, List.getElem?_append_right (by simp [zeros_len]; omega)]
        simp [zeros_len]
        rw [show d.payload.length + d.pad - 1 - (d.payload.length + (d.pad - 1)) = 0 by omega]
        rfl
      rw [if_pos (decide_eq_true hp), hlast, hL, if_neg (by omega)]
    · rw [if_neg (by simpa using hp)]
      congr 1
      omega
  unfold readN
  rw [if_neg (by omega), if_neg (by omega), g0, f64, if_neg (by decide), f16, if_neg (by omega), fx, hre]
  dsimp only
  rw [if_neg (by decide), fp, hdr, dropAt rfl, hpd]
  dsimp only
  rw [g1, s1, s2, n2, n4, n8, ro, hlen]
  rw [show 12 + (4 * d.others.length + ((extN d).length + (d.payload.length + d.pad))) - (12 + 4 * d.others.length + (extN d).length) - d.pad = d.payload.length by omega, takeAt rfl]

theorem putB_nm (l : List Nat) (hb : ByL l) (a n : Nat) (h : a + n ≤ l.length) : putB n (nm l a n) = (l.drop a).take n := by
  have e : ((l.drop a).take n).length = n := by rw [List.length_take, List.length_drop]; omega
  have := putB_numB ((l.drop a).take n) ((hb.drop a).take n)
  rw [e] at this
  exact this
theorem take_split (l : List Nat) (a n : Nat) : (l.drop a).take n ++ l.drop (a + n) = l.drop a := by
  rw [← List.drop_drop]; exact List.take_append_drop _ _
theorem oth_back (l : List Nat) (hb : ByL l) : ∀ k, 12 + 4 * k ≤ l.length → othN (rOthers l k) = (l.drop 12).take (4 * k)
  | 0, _ => by simp [rOthers, othN]
  | k + 1, h => by
    rw [← rOthers_snoc, othN_snoc, oth_back l hb k (by omega), putB_nm l hb _ _ (by omega), show 4 * (k + 1) = 4 * k + 4 by omega, List.take_add, List.drop_drop]

/-- What is read may be; it is as long, and the same but for the padding. -/
theorem write_read (l : List Nat) (hb : ByL l) (h : Nat) (d : RtpD) (hr : readN l = (0, h, d)) : mayN d = true ∧ RtpWf d ∧ d.pad ≤ l.length ∧ l.length ≤ 1200 ∧ bytesN d = l.take (l.length - d.pad) ++ padN d.pad := by
  unfold readN at hr
  split at hr
  · cases hr
  rename_i h1
  split at hr
  · cases hr
  rename_i h2
  split at hr
  · cases hr
  rename_i h3
  split at hr
  · cases hr
  rename_i h4
  dsimp only at hr
  split at hr
  · rename_i hne
    simp only [Prod.mk.injEq] at hr
    exact absurd hr.1 hne
  rename_i hx0
  split at hr
  · cases hr
  rename_i p hp
  have hb0 := hb.get 0
  have hb1 := hb.get 1
  generalize hx : rExt l (l.getD 0 0 / 16 % 2 == 1) (12 + 4 * (l.getD 0 0 % 16)) = x at *
  obtain ⟨er, ae, pf, ex⟩ := x
  have he0 : er = 0 := by simpa using hx0
  subst he0
  dsimp only at hr hp
  simp only [Prod.mk.injEq, true_and] at hr
  obtain ⟨rfl, hd⟩ := hr
  -- the extension
  have hext : ae ≤ l.length ∧ 12 + 4 * (l.getD 0 0 % 16) ≤ ae ∧ pf < 65536 ∧ ByL ex ∧ ex.length % 4 = 0 ∧ ex.length ≤ 1020 ∧ ((l.getD 0 0 / 16 % 2 == 1) = true ∨ (ex.length = 0 ∧ pf = 0)) ∧ (if (l.getD 0 0 / 16 % 2 == 1) = true then putB 2 pf ++ (putB 2 (ex.length / 4) ++ ex) else []) ++ l.drop ae = l.drop (12 + 4 * (l.getD 0 0 % 16)) := by
    unfold rExt at hx
    split at hx
    · rename_i hbit
      split at hx
      · cases hx
      rename_i k1
      split at hx
      · cases hx
      rename_i k2
      split at hx
      · cases hx
      rename_i k3
      simp only [Prod.mk.injEq, true_and] at hx
      obtain ⟨rfl, rfl, rfl⟩ := hx
      generalize hA : 12 + 4 * (l.getD 0 0 % 16) = A at *
      have hW := nm_lt l hb (A + 2) 2
      have hP := nm_lt l hb A 2
      have hpw := putB_nm l hb (A + 2) 2 (by omega)
      have hpp := putB_nm l hb A 2 (by omega)
      generalize nm l (A + 2) 2 = W at *
      generalize nm l A 2 = Pf at *
      have hl : ((l.drop (A + 4)).take (4 * W)).length = 4 * W := by rw [List.length_take, List.length_drop]; omega
      refine ⟨by omega, by omega, hP, (hb.drop _).take _, by omega, by omega, .inl hbit, ?_⟩
      rw [if_pos hbit, hl, show 4 * W / 4 = W by omega, hpw, hpp, List.append_assoc, List.append_assoc, take_split l (A + 4) (4 * W), take_split l (A + 2) 2, take_split l A 2]
    · rename_i hbit
      simp only [Prod.mk.injEq, true_and] at hx
      obtain ⟨rfl, rfl, rfl⟩ := hx
      refine ⟨by omega, Nat.le_refl _, by omega, (fun x hx => by cases hx), rfl, by simp, .inr ⟨rfl, rfl⟩, ?_⟩
      rw [if_neg hbit]; rfl
  obtain ⟨ha1, ha2, hpf, hex, hm4, h1020, hor, hcat⟩ := hext
  -- the padding
  have hdl : (l.drop ae).length = l.length - ae := List.length_drop ..
  have hpad : p ≤ l.length - ae ∧ p < 256 ∧ (l.getD 0 0 / 32 % 2 == 1) = decide (0 < p) := by
    unfold rPad at hp
    split at hp
    · rename_i hbit
      split at hp
      · cases hp
      rename_i k1
      have hg := (hb.drop ae).get ((l.drop ae).length - 1)
      have e : (l.drop ae).getD ((l.drop ae).length - 1) 0 = p := Option.some.inj hp
      rw [e] at k1 hg
      exact ⟨by omega, hg, by rw [hbit]; symm; simp; omega⟩
    · rename_i hbit
      have e : 0 = p := Option.some.inj hp
      subst e
      exact ⟨by omega, by decide, by simpa using hbit⟩
  obtain ⟨hp1, hp2, hp3⟩ := hpad
  clear hx hp hx0
  have hk : (rOthers l (l.getD 0 0 % 16)).length = l.getD 0 0 % 16 := rOthers_len _ _
  have hoth := oth_back l hb (l.getD 0 0 % 16) (by omega)
  have hlt : ∀ x ∈ rOthers l (l.getD 0 0 % 16), x < 4294967296 := fun x hx => by
    obtain ⟨i, _, rfl⟩ := List.mem_map.1 hx
    exact nm_lt l hb _ 4
  have hpl : ((l.drop ae).take (l.length - ae - p)).length = l.length - ae - p := by rw [List.length_take, hdl]; omega
  subst hd
  have hq2 := nm_lt l hb 2 2
  have hq4 := nm_lt l hb 4 4
  have hq8 := nm_lt l hb 8 4
  refine ⟨decide_eq_true ⟨?_, ?_, hm4, h1020, hor⟩, ⟨?_, hq2, hq4, hq8, hlt, hpf, hex, (hb.drop _).take _, hp2⟩, ?_, by omega, ?_⟩
  · show l.getD 1 0 % 128 < 128; omega
  · show (rOthers l (l.getD 0 0 % 16)).length ≤ 15; omega
  · show l.getD 1 0 % 128 < 256; omega
  · show p ≤ l.length; omega
  · have e12 : headN ⟨l.getD 1 0 / 128 == 1, l.getD 1 0 % 128, nm l 2 2, nm l 4 4, nm l 8 4, rOthers l (l.getD 0 0 % 16), l.getD 0 0 / 16 % 2 == 1, pf, ex, (l.drop ae).take (l.length - ae - p), p⟩ ++ l.drop 12 = l := by
      have f1 : firstB ⟨l.getD 1 0 / 128 == 1, l.getD 1 0 % 128, nm l 2 2, nm l 4 4, nm l 8 4, rOthers l (l.getD 0 0 % 16), l.getD 0 0 / 16 % 2 == 1, pf, ex, (l.drop ae).take (l.length - ae - p), p⟩ = l.getD 0 0 := by
        unfold firstB
        dsimp only
        rw [hk]
        by_cases q : 0 < p
        · rw [decide_eq_true q] at hp3
          have := eq_of_beq hp3
          rw [if_pos q]
          split
          · rename_i t; have := eq_of_beq t; omega
          · rename_i t; have : ¬ l.getD 0 0 / 16 % 2 = 1 := fun u => t (beq_iff_eq.2 u); omega
        · rw [decide_eq_false q] at hp3
          have : ¬ l.getD 0 0 / 32 % 2 = 1 := fun u => by rw [beq_iff_eq.2 u] at hp3; cases hp3
          rw [if_neg q]
          split
          · rename_i t; have := eq_of_beq t; omega
          · rename_i t; have : ¬ l.getD 0 0 / 16 % 2 = 1 := fun u => t (beq_iff_eq.2 u); omega
      have f2 : secondN ⟨l.getD 1 0 / 128 == 1, l.getD 1 0 % 128, nm l 2 2, nm l 4 4, nm l 8 4, rOthers l (l.getD 0 0 % 16), l.getD 0 0 / 16 % 2 == 1, pf, ex, (l.drop ae).take (l.length - ae - p), p⟩ = l.getD 1 0 := by
        unfold secondN
        dsimp only
        split
        · rename_i t; have := eq_of_beq t; omega
        · rename_i t; have : ¬ l.getD 1 0 / 128 = 1 := fun u => t (beq_iff_eq.2 u); omega
      unfold headN
      rw [f1, f2]
      dsimp only
      rw [putB_nm l hb 2 2 (by omega), putB_nm l hb 4 4 (by omega), putB_nm l hb 8 4 (by omega)]
      simp only [List.append_assoc]
      rw [take_split l 8 4, take_split l 4 4, take_split l 2 2]
      have : l = l.getD 0 0 :: l.getD 1 0 :: l.drop 2 := by
        match l, h2 with
        | a :: b :: l, _ => rfl
        | [_], h => simp at h
        | [], h => simp at h
      exact this.symm
    unfold bytesN extN
    dsimp only
    rw [hoth]
    generalize headN ⟨l.getD 1 0 / 128 == 1, l.getD 1 0 % 128, nm l 2 2, nm l 4 4, nm l 8 4, rOthers l (l.getD 0 0 % 16), l.getD 0 0 / 16 % 2 == 1, pf, ex, (l.drop ae).take (l.length - ae - p), p⟩ = H at *
    generalize (if (l.getD 0 0 / 16 % 2 == 1) = true then putB 2 pf ++ (putB 2 (ex.length / 4) ++ ex) else []) = X at *
    have hsplit : l.drop ae = (l.drop ae).take (l.length - ae - p) ++ l.drop (l.length - p) := by
      have := take_split l ae (l.length - ae - p)
      rw [show ae + (l.length - ae - p) = l.length - p by omega] at this
      exact this.symm
    have e2 : H ++ ((l.drop 12).take (4 * (l.getD 0 0 % 16)) ++ (X ++ ((l.drop ae).take (l.length - ae - p) ++ l.drop (l.length - p)))) = l := by
      rw [← hsplit, hcat, take_split l 12, e12]
    have e3 : H ++ ((l.drop 12).take (4 * (l.getD 0 0 % 16)) ++ (X ++ (l.drop ae).take (l.length - ae - p))) = l.take (l.length - p) := by
      have e4 : (H ++ ((l.drop 12).take (4 * (l.getD 0 0 % 16)) ++ (X ++ (l.drop ae).take (l.length - ae - p)))) ++ l.drop (l.length - p) = l.take (l.length - p) ++ l.drop (l.length - p) := by
        rw [List.take_append_drop]
        simpa only [List.append_assoc] using e2
      exact List.append_cancel_right e4
    rw [← e3]
    simp only [List.append_assoc]
end Go.Proofs.Ytikmhlbpefednaa
