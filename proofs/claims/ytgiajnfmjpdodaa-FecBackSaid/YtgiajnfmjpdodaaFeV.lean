/- Covers of packets: the plain laws: what a cover's packets without one make of it. No program. -/
import Derived.Test.YtgiajnfmjpdodaaFeU
namespace Go.Proofs.Ytgiajnfmjpdodaa
open Go.RowKit

section fold
variable (op : Nat → Nat → Nat)
def fo (l : List Nat) : Nat := l.foldr op 0
variable (ha : ∀ a b c, op (op a b) c = op a (op b c)) (hc : ∀ a b, op a b = op b a) (h0 : ∀ a, op 0 a = a)
include ha h0 in
theorem fo_append : ∀ a b : List Nat, fo op (a ++ b) = op (fo op a) (fo op b)
  | [], b => (h0 _).symm
  | x :: a, b => by
    show op x (fo op (a ++ b)) = op (op x (fo op a)) (fo op b)
    rw [fo_append a b, ha]
include ha hc h0 in
theorem fo_step (g val : RtpD → Nat) (K : Nat) : ∀ D : List RtpD, D.Pairwise (fun a b => g a ≠ g b) →
    fo op ((D.filter fun d => decide (g d < K + 1)).map val) = op (fo op ((D.filter fun d => decide (g d < K)).map val)) (fo op ((D.find? fun d => g d == K).toList.map val))
  | [], _ => (h0 _).symm
  | d :: D, hp => by
    obtain ⟨h1, h2⟩ := List.pairwise_cons.1 hp
    have ih := fo_step g val K D h2
    rcases Nat.lt_trichotomy (g d) K with h | h | h
    · rw [List.filter_cons_of_pos (by simp; omega), List.filter_cons_of_pos (by simp; omega), List.find?_cons_of_neg (by simp; omega)]
      show op (val d) (fo op _) = op (op (val d) (fo op _)) _
      rw [ih, ha]
    · have hn : (D.find? fun d => g d == K) = none := List.find?_eq_none.2 fun y hy => by
        have := h1 y hy
        simp; omega
      rw [List.filter_cons_of_pos (by simp; omega), List.filter_cons_of_neg (by simp; omega), List.find?_cons_of_pos (by simp; omega)]
      rw [hn] at ih
      show op (val d) (fo op _) = op (fo op _) (op (val d) 0)
      rw [ih]
      show op (val d) (op _ 0) = _
      rw [← ha, hc (val d), ha]
    · rw [List.filter_cons_of_neg (by simp; omega), List.filter_cons_of_neg (by simp; omega), List.find?_cons_of_neg (by simp; omega)]
      exact ih
include ha hc h0 in
theorem fo_by (g val : RtpD → Nat) (D : List RtpD) (hp : D.Pairwise (fun a b => g a ≠ g b)) : ∀ K,
    fo op (((List.range K).filterMap fun k => D.find? fun d => g d == k).map val) = fo op ((D.filter fun d => decide (g d < K)).map val)
  | 0 => by
    rw [List.filter_eq_nil_iff.2 (fun d _ => by simp)]; rfl
  | K + 1 => by
    rw [List.range_succ, List.filterMap_append, List.map_append, fo_append op ha h0, fo_by g val D hp K, fo_step op ha hc h0 g val K D hp]
    have e : (List.filterMap (fun k => List.find? (fun d => g d == k) D) [K]) = (D.find? fun d => g d == K).toList := by
      simp only [List.filterMap_cons, List.filterMap_nil]
      cases D.find? fun d => g d == K <;> rfl
    rw [e]
end fold
theorem xorR_lenF : ∀ (rows : List (List Nat)) (a : List Nat), (rows.foldl xo a).length = max a.length (fo max (rows.map List.length))
  | [], a => by show a.length = max a.length 0; omega
  | r :: rows, a => by
    show (rows.foldl xo (xo a r)).length = max a.length (max r.length (fo max (rows.map List.length)))
    rw [xorR_lenF rows, xo_len]; omega
theorem xorR_len (rows : List (List Nat)) : (xorR rows).length = fo max (rows.map List.length) := by
  have := xorR_lenF rows []
  rw [List.length_nil, Nat.zero_max] at this
  exact this
theorem xorR_getF (i : Nat) : ∀ (rows : List (List Nat)) (a : List Nat), (rows.foldl xo a).getD i 0 = a.getD i 0 ^^^ fo (· ^^^ ·) (rows.map fun r => r.getD i 0)
  | [], a => by show a.getD i 0 = a.getD i 0 ^^^ 0; rw [Nat.xor_zero]
  | r :: rows, a => by
    show (rows.foldl xo (xo a r)).getD i 0 = a.getD i 0 ^^^ (r.getD i 0 ^^^ fo (· ^^^ ·) (rows.map fun r => r.getD i 0))
    rw [xorR_getF i rows, xo_get, Nat.xor_assoc]
theorem xorR_get (rows : List (List Nat)) (i : Nat) : (xorR rows).getD i 0 = fo (· ^^^ ·) (rows.map fun r => r.getD i 0) := by
  have := xorR_getF i rows []
  rw [show ([] : List Nat).getD i 0 = 0 from rfl, Nat.zero_xor] at this
  exact this
theorem maskN_bits {f : Nat} : ∀ {L : List Nat} {m M : Nat}, maskN f L m = some M → (∀ k, M.testBit k = (m.testBit k || L.any fun t => dst f t == k)) ∧ (∀ t ∈ L, m.testBit (dst f t) = false) ∧ L.Pairwise fun a b => dst f a ≠ dst f b
  | [], m, M, h => by
    cases h
    exact ⟨fun k => by simp, fun t ht => by (cases ht), .nil⟩
  | t :: L, m, M, h => by
    unfold maskN at h
    split at h
    · cases h
    · next hb =>
      obtain ⟨h1, h2, h3⟩ := maskN_bits h
      refine ⟨fun k => ?_, fun x hx => ?_, .cons (fun x hx => ?_) h3⟩
      · rw [h1, Nat.testBit_or, Nat.testBit_two_pow, List.any_cons, Bool.or_assoc]
        congr 2
      · rcases List.mem_cons.1 hx with rfl | hx
        · simpa using hb
        · have := h2 x hx
          rw [Nat.testBit_or, Bool.or_eq_false_iff] at this
          exact this.1
      · have := h2 x hx
        rw [Nat.testBit_or, Nat.testBit_two_pow, Bool.or_eq_false_iff] at this
        simpa using this.2
theorem seq_dst {f s k : Nat} (hf : f < 65536) (hs : s < 65536) (hk : k < 65536) : s = (f + k) % 65536 ↔ dst f s = k := by
  unfold dst; omega
theorem find_cong {p q : RtpD → Bool} : ∀ {D : List RtpD}, (∀ d ∈ D, p d = q d) → D.find? p = D.find? q
  | [], _ => rfl
  | d :: D, h => by
    rw [List.find?_cons, List.find?_cons, h d List.mem_cons_self, find_cong fun x hx => h x (List.mem_cons_of_mem _ hx)]
theorem fmap_filter {p : Nat → Bool} {g : Nat → Option RtpD} : ∀ {l : List Nat}, (∀ x ∈ l, p x = false → g x = none) → (l.filter p).filterMap g = l.filterMap g
  | [], _ => rfl
  | x :: l, h => by
    have ih := fmap_filter (p := p) (g := g) (l := l) fun y hy => h y (List.mem_cons_of_mem _ hy)
    cases hp : p x with
    | true => rw [List.filter_cons_of_pos hp, List.filterMap_cons, List.filterMap_cons, ih]
    | false => rw [List.filter_cons_of_neg (by rw [hp]; decide), List.filterMap_cons, h x List.mem_cons_self hp, ih]
/-- What a cover is of. -/
structure CovOf (D : List RtpD) (f m : Nat) : Prop where
  wf : ∀ d ∈ D, RtpWf d
  f16 : f < 65536
  m16 : m < 65536
  near : ∀ d ∈ D, dst f d.seq < 16
  bits : ∀ k, m.testBit k = D.any fun d => dst f d.seq == k
  apart : D.Pairwise fun a b => dst f a.seq ≠ dst f b.seq
  first : ∃ d ∈ D, d.seq = f
  two : 2 ≤ D.length
  ok : ∀ d ∈ D, (writeN d).isSome = true
theorem cov_of {D : List RtpD} {b : List Nat} (hw : ∀ d ∈ D, RtpWf d) (h : makeN D = some b) : ∃ f m, CovOf D f m ∧ b = outN D f m ∧ b.length ≤ 1200 := by
  unfold makeN at h
  split at h
  · cases h
  next hn =>
  split at h
  · cases h
  next f hf =>
  split at h
  · next hh =>
    obtain ⟨h1, h2⟩ := hh
    rw [Bool.and_eq_true] at h1
    obtain ⟨hs, hall⟩ := h1
    obtain ⟨m, hm⟩ := Option.isSome_iff_exists.1 hs
    rw [hm] at h h2
    simp only [Option.getD_some, Option.some.injEq] at h h2
    have hfm := base_mem hf
    have hnear := base_near hf
    obtain ⟨k1, k2, k3⟩ := maskN_bits hm
    have hfm2 : f ∈ D.map RtpD.seq := hfm
    obtain ⟨d0, hd0, e0⟩ := List.mem_map.1 hfm2
    refine ⟨f, m, ⟨hw, seqs_lt hw f hfm, mask_lt' hm hnear, fun d hd => hnear _ (List.mem_map.2 ⟨d, hd, rfl⟩), fun k => ?_, (List.pairwise_map (R := fun a b => dst f a ≠ dst f b) (f := RtpD.seq)).1 k3, ⟨d0, hd0, e0⟩, by omega, fun d hd => ?_⟩, h.symm, by rw [← h]; exact h2⟩
    · rw [k1, Nat.zero_testBit, Bool.false_or]
      unfold seqsN
      rw [List.any_map]; rfl
    · have := List.all_eq_true.1 hall d hd
      unfold okD at this
      rw [Bool.and_eq_true] at this
      exact this.1
  · cases h
theorem fmap_cong {g g' : Nat → Option RtpD} : ∀ {l : List Nat}, (∀ x ∈ l, g x = g' x) → l.filterMap g = l.filterMap g'
  | [], _ => rfl
  | x :: l, h => by
    rw [List.filterMap_cons, List.filterMap_cons, h x List.mem_cons_self, fmap_cong fun y hy => h y (List.mem_cons_of_mem _ hy)]
theorem CovOf.find {D : List RtpD} {f m : Nat} (C : CovOf D f m) {D' : List RtpD} (hs : ∀ d ∈ D', d ∈ D) :
    (covK f m 16).filterMap (fun s => D'.find? (isSeq s)) = (List.range 16).filterMap fun k => D'.find? fun d => dst f d.seq == k := by
  have e : ∀ k, k < 65536 → D'.find? (isSeq ((f + k) % 65536)) = D'.find? fun d => dst f d.seq == k := fun k hk => find_cong fun d hd => by
    unfold isSeq
    rw [Bool.eq_iff_iff, beq_iff_eq, beq_iff_eq]
    exact seq_dst C.f16 (C.wf d (hs d hd)).seq hk
  unfold covK
  rw [List.filterMap_map, fmap_filter]
  · exact fmap_cong fun k hk => e k (by have := List.mem_range.1 hk; omega)
  · intro k hk hb
    have hk := List.mem_range.1 hk
    show D'.find? (isSeq ((f + k) % 65536)) = none
    rw [e k (by omega)]
    refine List.find?_eq_none.2 fun d hd hq => ?_
    rw [C.bits, List.any_eq_false] at hb
    exact hb d (hs d hd) hq
/-- The fold over the packets that the numbers tell is the fold over all. -/
theorem CovOf.fold {D : List RtpD} {f m : Nat} (C : CovOf D f m) {D' : List RtpD} (hs : ∀ d ∈ D', d ∈ D) (hp : D'.Pairwise fun a b => dst f a.seq ≠ dst f b.seq) (op : Nat → Nat → Nat) (ha : ∀ a b c, op (op a b) c = op a (op b c)) (hc : ∀ a b, op a b = op b a) (h0 : ∀ a, op 0 a = a) (val : RtpD → Nat) :
    fo op (((covK f m 16).filterMap fun s => D'.find? (isSeq s)).map val) = fo op (D'.map val) := by
  rw [C.find hs, fo_by op ha hc h0 (fun d => dst f d.seq) val D' hp, List.filter_eq_self.2]
  intro d hd
  exact decide_eq_true (C.near d (hs d hd))
theorem sum_ones : ∀ (l : List RtpD), fo (· + ·) (l.map fun _ => 1) = l.length
  | [] => rfl
  | _ :: l => by
    show 1 + fo (· + ·) (l.map fun _ => 1) = _
    rw [sum_ones l, List.length_cons]; omega
theorem CovOf.many {D : List RtpD} {f m : Nat} (C : CovOf D f m) : 2 ≤ (covK f m 16).length := by
  have h := C.fold (fun _ h => h) C.apart (· + ·) Nat.add_assoc Nat.add_comm Nat.zero_add (fun _ => 1)
  rw [sum_ones, sum_ones] at h
  have := List.length_filterMap_le (fun s => D.find? (isSeq s)) (covK f m 16)
  have := C.two
  omega
theorem CovOf.mem {D : List RtpD} {f m : Nat} (C : CovOf D f m) {s : Nat} : s ∈ covK f m 16 ↔ ∃ d ∈ D, d.seq = s := by
  unfold covK
  constructor
  · intro h
    obtain ⟨k, hk, rfl⟩ := List.mem_map.1 h
    obtain ⟨hk, hb⟩ := List.mem_filter.1 hk
    have hk := List.mem_range.1 hk
    rw [C.bits] at hb
    obtain ⟨d, hd, hq⟩ := List.any_eq_true.1 hb
    exact ⟨d, hd, (seq_dst C.f16 (C.wf d hd).seq (by omega)).2 (by simpa using hq)⟩
  · rintro ⟨d, hd, rfl⟩
    refine List.mem_map.2 ⟨dst f d.seq, List.mem_filter.2 ⟨List.mem_range.2 (C.near d hd), ?_⟩, ?_⟩
    · rw [C.bits]
      exact List.any_eq_true.2 ⟨d, hd, by simp⟩
    · have h1 := C.near d hd
      exact ((seq_dst C.f16 (C.wf d hd).seq (by omega)).2 rfl).symm
theorem CovOf.nodup {D : List RtpD} {f m : Nat} (C : CovOf D f m) : (covK f m 16).Nodup := by
  unfold covK
  have h := (List.nodup_range (n := 16)).filter (fun i => m.testBit i)
  have h2 : ∀ i ∈ (List.range 16).filter (fun i => m.testBit i), i < 16 := fun i hi => List.mem_range.1 (List.mem_filter.1 hi).1
  generalize (List.range 16).filter (fun i => m.testBit i) = l at *
  have hf := C.f16
  refine List.pairwise_map.2 (List.Pairwise.imp_of_mem (fun {a b} ha hb hab => ?_) h)
  have := h2 a ha
  have := h2 b hb
  intro e
  apply hab
  omega
theorem CovOf.all {D : List RtpD} {f m : Nat} (C : CovOf D f m) : ((covK f m 16).filter fun x => !(hasS D x)).length ≠ 1 := by
  rw [List.filter_eq_nil_iff.2]
  · decide
  · intro s hs
    obtain ⟨d, hd, hq⟩ := C.mem.1 hs
    have : hasS D s = true := by
      unfold hasS
      rw [List.find?_isSome]
      exact ⟨d, hd, by unfold isSeq; rw [hq]; simp⟩
    rw [this]; decide
theorem filter_one {p : Nat → Bool} {x : Nat} {l : List Nat} (hn : l.Nodup) (hx : x ∈ l) (hp : ∀ y ∈ l, p y = true ↔ y = x) : l.filter p = [x] := by
  obtain ⟨a, b, rfl⟩ := List.append_of_mem hx
  have h1 := List.nodup_append.1 hn
  have h2 := List.nodup_cons.1 h1.2.1
  rw [List.filter_append, List.filter_cons_of_pos ((hp x (by simp)).2 rfl)]
  have e1 : a.filter p = [] := List.filter_eq_nil_iff.2 fun y hy h => h1.2.2 y hy x List.mem_cons_self ((hp y (by simp [hy])).1 h)
  have e2 : b.filter p = [] := List.filter_eq_nil_iff.2 fun y hy h => h2.1 (by rw [← (hp y (by simp [hy])).1 h]; exact hy)
  rw [e1, e2]
  rfl
theorem CovOf.lacks {D1 D2 : List RtpD} {x : RtpD} {f m : Nat} (C : CovOf (D1 ++ x :: D2) f m) : ((covK f m 16).filter fun s => !(hasS (D1 ++ D2) s)) = [x.seq] := by
  have hx : x ∈ D1 ++ x :: D2 := by simp
  refine filter_one C.nodup (C.mem.2 ⟨x, hx, rfl⟩) fun s hs => ?_
  obtain ⟨d, hd, rfl⟩ := C.mem.1 hs
  have hap := C.apart
  rw [List.pairwise_append] at hap
  obtain ⟨_, ha2, ha3⟩ := hap
  have ha4 := (List.pairwise_cons.1 ha2).1
  rw [Bool.not_eq_true']
  constructor
  · intro h
    unfold hasS at h
    rw [Option.isSome_eq_false_iff, Option.isNone_iff_eq_none, List.find?_eq_none] at h
    rcases List.mem_append.1 hd with h1 | h1
    · exact absurd (by unfold isSeq; simp) (h d (List.mem_append.2 (.inl h1)))
    · rcases List.mem_cons.1 h1 with rfl | h1
      · rfl
      · exact absurd (by unfold isSeq; simp) (h d (List.mem_append.2 (.inr h1)))
  · intro h
    unfold hasS
    rw [Option.isSome_eq_false_iff, Option.isNone_iff_eq_none, List.find?_eq_none]
    intro y hy hq
    unfold isSeq at hq
    rw [h, beq_iff_eq] at hq
    rcases List.mem_append.1 hy with h1 | h1
    · exact ha3 y h1 x List.mem_cons_self (by rw [hq])
    · exact ha4 y h1 (by rw [hq])
theorem max_a : ∀ a b c : Nat, max (max a b) c = max a (max b c) := fun a b c => by omega
theorem max_c : ∀ a b : Nat, max a b = max b a := fun a b => by omega
theorem max_0 : ∀ a : Nat, max 0 a = a := fun a => by omega
/-- What is xored of a cover and all its packets but one. -/
theorem CovOf.mend {D1 D2 : List RtpD} {x : RtpD} {f m : Nat} (C : CovOf (D1 ++ x :: D2) f m) :
    (txN x).length ≤ (xorR (rowsN (outN (D1 ++ x :: D2) f m) (D1 ++ D2) (covK f m 16))).length ∧ ∀ i, (xorR (rowsN (outN (D1 ++ x :: D2) f m) (D1 ++ D2) (covK f m 16))).getD i 0 = (txN x).getD i 0 := by
  have hs : ∀ d ∈ D1 ++ D2, d ∈ D1 ++ x :: D2 := fun d hd => by
    rcases List.mem_append.1 hd with h | h
    · exact List.mem_append.2 (.inl h)
    · exact List.mem_append.2 (.inr (List.mem_cons_of_mem _ h))
  have hp : (D1 ++ D2).Pairwise fun a b => dst f a.seq ≠ dst f b.seq := C.apart.sublist (List.Sublist.append (List.Sublist.refl _) (List.sublist_cons_self _ _))
  have hd : (outN (D1 ++ x :: D2) f m).drop 4 = xorR ((D1 ++ x :: D2).map txN) := dropAt (by simp [putB_len])
  have hml := C.fold hs hp max max_a max_c max_0 (fun d => (txN d).length)
  have hxl := fun i => C.fold hs hp (· ^^^ ·) Nat.xor_assoc Nat.xor_comm Nat.zero_xor (fun d => (txN d).getD i 0)
  unfold rowsN
  rw [hd]
  constructor
  · rw [xorR_len, List.map_cons, List.map_map]
    show _ ≤ max (xorR ((D1 ++ x :: D2).map txN)).length (fo max _)
    rw [xorR_len, List.map_map, List.map_append, fo_append max max_a max_0]
    show _ ≤ max (max _ (max (txN x).length _)) _
    omega
  · intro i
    rw [xorR_get, List.map_cons, List.map_map]
    show (xorR ((D1 ++ x :: D2).map txN)).getD i 0 ^^^ fo (· ^^^ ·) _ = _
    have e := hxl i
    have e2 : ((covK f m 16).filterMap fun s => (D1 ++ D2).find? (isSeq s)).map ((fun r : List Nat => r.getD i 0) ∘ txN) = ((covK f m 16).filterMap fun s => (D1 ++ D2).find? (isSeq s)).map fun d => (txN d).getD i 0 := rfl
    rw [e2, e, xorR_get, List.map_map]
    have e3 : ∀ l : List RtpD, l.map ((fun r : List Nat => r.getD i 0) ∘ txN) = l.map fun d => (txN d).getD i 0 := fun _ => rfl
    rw [e3, List.map_append, List.map_append, fo_append (· ^^^ ·) Nat.xor_assoc Nat.zero_xor, fo_append (· ^^^ ·) Nat.xor_assoc Nat.zero_xor, List.map_cons]
    generalize fo (· ^^^ ·) (D1.map fun d => (txN d).getD i 0) = a
    show a ^^^ ((txN x).getD i 0 ^^^ fo (· ^^^ ·) (D2.map fun d => (txN d).getD i 0)) ^^^ (a ^^^ fo (· ^^^ ·) (D2.map fun d => (txN d).getD i 0)) = _
    generalize fo (· ^^^ ·) (D2.map fun d => (txN d).getD i 0) = b
    generalize (txN x).getD i 0 = t
    rw [Nat.xor_comm a (t ^^^ b), Nat.xor_assoc (t ^^^ b) a, ← Nat.xor_assoc a a b, Nat.xor_self, Nat.zero_xor, Nat.xor_assoc, Nat.xor_self, Nat.xor_zero]
end Go.Proofs.Ytgiajnfmjpdodaa
