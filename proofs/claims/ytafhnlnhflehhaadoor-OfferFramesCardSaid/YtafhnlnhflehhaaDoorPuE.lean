/- Kinds of elements that are plain cells; slices of any kind that are only read. Nothing of the program; no condition. -/
import Derived.Test.YtafhnlnhflehhaaDoorEls
import Derived.Test.YtafhnlnhflehhaaDoorRd
namespace Go.Proofs.YtafhnlnhflehhaaDoor
open Go.RowKit
def pureE {α : Type} (n : Nat) (f : α → List Value) (hn : 0 < n) (hl : ∀ a, (f a).length = n) (h1 : ∀ a, ∀ u ∈ f a, u.oneCell' = true) : Elt α where
 size := n
 R := fun _ _ a c => c = f a
 Ok := fun _ _ => True
 pos := hn
 len := fun e => by rw [e]; exact hl _
 one := fun e u hu => by rw [e] at hu; exact h1 _ u hu
 bw := fun e _ => e
 up := fun e _ => e
 still := fun e _ _ => e
 old := fun e _ _ => e
variable {α : Type}
def SQ (E : Elt α) (w : World) (base : Nat) (v : Value) (n : Nat) (l : List α) : Prop := l.length = n ∧ ∃ xs, Sls w E.size v n xs ∧ EL E w base l xs
theorem EQ.sq {E : Elt α} {T : TypeId} {w : World} {base : Nat} {v : Value} {n : Nat} {l : List α} (h : EQ E T w base v n l) : SQ E w base v n l := by
 obtain ⟨h1, xs, h2, h3⟩ := h
 exact ⟨h1, xs, h2.sls, h3⟩
theorem SQ.bw {E : Elt α} {a b : World} {base : Nat} {v : Value} {n : Nat} {l : List α} (h : SQ E a base v n l) (hb : BW a b) : SQ E b base v n l := by
 obtain ⟨h1, xs, h2, h3⟩ := h
 exact ⟨h1, xs, h2.bw hb, h3.mono fun _ _ h => E.bw h hb⟩
theorem SQ.len {E : Elt α} {w : World} {base : Nat} {v : Value} {n : Nat} {l : List α} (h : SQ E w base v n l) : ∃ sa cap, v = .slice sa n cap ∧ n ≤ cap ∧ cap ≤ maxLen := h.2.choose_spec.1.len
theorem SQ.still {E : Elt α} {w w' : World} {base : Nat} {v : Value} {n : Nat} {l : List α} (h : SQ E w base v n l) {S : List Nat} (hs : Still S w w') (hS : ∀ k ∈ S, E.Ok w k) (hv : ∀ g, v.ownBlock = some g → g ∉ S) : SQ E w' base v n l := by
 obtain ⟨h1, xs, h2, h3⟩ := h
 exact ⟨h1, xs, h2.still hs hv, h3.mono fun _ _ h => E.still h hs hS⟩
theorem SQ.form {E : Elt α} {w : World} {base : Nat} {v : Value} {n : Nat} {l : List α} (h : SQ E w base v n l) (h0 : 0 < n) :
  ∃ g o cap, v = .slice (some ⟨g, o, Option.none⟩) n cap ∧ g < w.heap.size ∧ n ≤ cap ∧ cap ≤ maxLen ∧ ∀ i (_ : i < l.length), ∃ c, E.R w base l[i] c ∧ ∀ j, j < E.size → w.cell? ⟨g, o + (i * E.size + j), Option.none⟩ = c[j]? := by
 obtain ⟨h1, xs, h2, h3⟩ := h
 obtain ⟨b, o, cap, rfl, hc, hm, hlt, hx⟩ := h2.form h0
 refine ⟨b, o, cap, rfl, hlt, hc, hm, fun i hi => ?_⟩
 obtain ⟨c, hR, hce⟩ := h3.get i hi
 refine ⟨c, hR, fun j hj => ?_⟩
 rw [hx _ (by rw [h1] at hi; have := Nat.mul_le_mul_right E.size (show i + 1 ≤ n by omega); rw [Nat.succ_mul] at this; omega), hce j hj]
theorem SQ.own {E : Elt α} {w : World} {base : Nat} {v : Value} {n : Nat} {l : List α} (h : SQ E w base v n l) (h0 : 0 < n) : ∀ k, v.ownBlock = some k → k < w.heap.size := by
 obtain ⟨g, o, cap, rfl, hlt, _⟩ := h.form h0
 intro k hk
 cases hk
 exact hlt
theorem EL.setJ {E : Elt α} {w : World} {base : Nat} {a : α} {u : Value} {j : Nat} (hj : j < E.size) : ∀ {l : List α} {xs : List Value} (i : Nat) (hi : i < l.length), (∀ c, E.R w base l[i] c → E.R w base a (c.set j u)) → EL E w base l xs → EL E w base (l.set i a) (xs.set (i * E.size + j) u)
 | b :: l, _, 0, _, hR, ⟨c, xs', e, h1, h2⟩ => by
  subst e
  refine ⟨c.set j u, xs', ?_, hR c h1, h2⟩
  rw [Nat.zero_mul, Nat.zero_add, List.set_append_left _ _ (by rw [E.len h1]; exact hj)]
 | b :: l, _, i + 1, hi, hR, ⟨c, xs', e, h1, h2⟩ => by
  subst e
  refine ⟨c, xs'.set (i * E.size + j) u, ?_, h1, EL.setJ hj i (by simpa using hi) hR h2⟩
  have hc := E.len h1
  rw [List.set_append_right _ _ (by rw [hc, Nat.succ_mul]; omega), hc, Nat.succ_mul]
  congr 2
  omega
theorem EQ.setJ {E : Elt α} {T : TypeId} {w : World} {base : Nat} {g o n cap : Nat} {l : List α} (h : EQ E T w base (.slice (some ⟨g, o, none⟩) n cap) n l) (hOk : E.Ok w g) {a : α} {u : Value} (i j : Nat) (hj : j < E.size) (hi : i < l.length) (hR : ∀ c, E.R w base l[i] c → E.R w base a (c.set j u)) :
  EQ E T (w.setCell ⟨g, o + (i * E.size + j), none⟩ u) base (.slice (some ⟨g, o, none⟩) n cap) n (l.set i a) := by
 obtain ⟨h0, xs, h1, h2⟩ := h
 have hlt : i * E.size + j < n * E.size := by
  have := Nat.mul_le_mul_right E.size (show i + 1 ≤ n by omega)
  rw [Nat.succ_mul] at this
  omega
 refine ⟨by rw [List.length_set]; exact h0, _, h1.set _ hlt u, ?_⟩
 exact (h2.setJ hj i hi hR).mono fun _ _ h => E.still h (still_sc w g _ u) (by simpa using hOk)
theorem list_of {α β : Type} (R : α → β → Prop) : ∀ n (f : Nat → β), (∀ i, i < n → ∃ a, R a (f i)) → ∃ l : List α, l.length = n ∧ ∀ i (_ : i < l.length), R l[i] (f i)
 | 0, _, _ => ⟨[], rfl, fun i h => by simp at h⟩
 | n + 1, f, h => by
  obtain ⟨l, h1, h2⟩ := list_of R n (fun i => f (i + 1)) (fun i hi => h (i + 1) (by omega))
  obtain ⟨a, ha⟩ := h 0 (by omega)
  refine ⟨a :: l, by simp [h1], fun i hi => ?_⟩
  match i, hi with
  | 0, _ => exact ha
  | i + 1, hi => exact h2 i (by simpa using hi)
theorem EL.of {E : Elt α} {w : World} {base : Nat} : ∀ (l : List (List Value × α)), (∀ p ∈ l, E.R w base p.2 p.1) → EL E w base (l.map Prod.snd) (l.map Prod.fst).flatten
 | [], _ => rfl
 | p :: l, h => ⟨p.1, (l.map Prod.fst).flatten, rfl, h p (List.mem_cons_self), EL.of l fun q hq => h q (List.mem_cons_of_mem _ hq)⟩
theorem flat_len {β : Type} (s : Nat) : ∀ (l : List (List β)), (∀ p ∈ l, p.length = s) → l.flatten.length = l.length * s
 | [], _ => by simp
 | p :: l, h => by
  rw [List.flatten_cons, List.length_append, flat_len s l (fun q hq => h q (List.mem_cons_of_mem _ hq)), h p (List.mem_cons_self), List.length_cons, Nat.succ_mul]
  omega
theorem flat_get {β : Type} (s : Nat) : ∀ (l : List (List β)) (i j : Nat) (hi : i < l.length), (∀ p ∈ l, p.length = s) → j < s → l.flatten[i * s + j]? = l[i][j]?
 | p :: l, 0, j, _, h, hj => by
  have hp := h p (List.mem_cons_self)
  rw [List.flatten_cons, Nat.zero_mul, Nat.zero_add, List.getElem?_append_left (by omega)]
  rfl
 | p :: l, i + 1, j, hi, h, hj => by
  have hp := h p (List.mem_cons_self)
  rw [List.flatten_cons, Nat.succ_mul, show i * s + s + j = p.length + (i * s + j) by omega, List.getElem?_append_right (by omega), Nat.add_sub_cancel_left, flat_get s l i j (by simpa using hi) (fun q hq => h q (List.mem_cons_of_mem _ hq)) hj]
  rfl
theorem SQ_of_Rd {E : Elt α} (φ : α → Prop) (e : Ty) {w : World} (base : Nat) {sa : Option Addr} {n cap : Nat} (h : Rd w (.loop e) [.slice sa n cap]) (hsz : tsize e = E.size) (hR : ∀ cs, Rd w e cs → ∃ a, φ a ∧ E.R w base a cs) : ∃ l, SQ E w base (.slice sa n cap) n l ∧ ∀ a ∈ l, φ a := by
 have hp : 0 < tsize e := by rw [hsz]; exact E.pos
 obtain ⟨h1, h2, h3⟩ := Rd.slice_at h hp
 have hz : n = 0 → (sa = none → cap = 0) → ∃ l, SQ E w base (.slice sa n cap) n l ∧ ∀ a ∈ l, φ a := fun h0 hc => by
  subst h0
  refine ⟨[], ?_, fun a ha => by cases ha⟩
  exact ⟨rfl, [], ⟨by simp, Nat.zero_le _, .inl ⟨rfl, sa, cap, rfl, hc, h2⟩⟩, rfl⟩
 rcases h3 with ⟨_, h0, hc⟩ | ⟨hc, h0, _⟩ | ⟨b, o, rfl, hb, _, hi⟩
 ·exact hz h0 fun _ => hc
 ·exact hz h0 fun _ => hc
 obtain ⟨l, hl, hx⟩ := list_of (fun (p : List Value × α) (i : Nat) => p.1.length = E.size ∧ (φ p.2 ∧ E.R w base p.2 p.1) ∧ ∀ j, j < E.size → w.cell? ⟨b, o + i * E.size + j, none⟩ = p.1[j]?) n id (fun i hin => by
  obtain ⟨cs, k1, k2, k3⟩ := hi i (by omega)
  obtain ⟨a, ha⟩ := hR cs k2
  rw [hsz] at k1 k3
  exact ⟨(cs, a), k1, ha, k3⟩)
 have hm : ∀ p ∈ l, p.1.length = E.size ∧ φ p.2 ∧ E.R w base p.2 p.1 := fun p hp => by
  obtain ⟨i, hi, rfl⟩ := List.mem_iff_getElem.1 hp
  exact ⟨(hx i hi).1, (hx i hi).2.1⟩
 have hf : ∀ q ∈ l.map Prod.fst, q.length = E.size := fun q hq => by
  obtain ⟨p, hp, rfl⟩ := List.mem_map.1 hq
  exact (hm p hp).1
 refine ⟨l.map Prod.snd, ⟨by rw [List.length_map, hl], (l.map Prod.fst).flatten, ⟨?_, Nat.le_trans h1 h2, ?_⟩, EL.of l fun p hp => (hm p hp).2.2⟩, fun a ha => by obtain ⟨p, hp, rfl⟩ := List.mem_map.1 ha; exact (hm p hp).2.1⟩
 ·rw [flat_len E.size _ hf, List.length_map, hl]
 ·by_cases h0 : n = 0
  ·subst h0
   exact .inl ⟨rfl, _, _, rfl, (fun e => by cases e), h2⟩
  refine .inr ⟨b, o, cap, rfl, h1, h2, hb, fun j hj => ?_⟩
  have hs0 := E.pos
  have hd : j / E.size < l.length := by rw [hl]; exact Nat.div_lt_of_lt_mul (by rw [Nat.mul_comm]; exact hj)
  have hr : j % E.size < E.size := Nat.mod_lt _ hs0
  have e : j = j / E.size * E.size + j % E.size := by rw [Nat.mul_comm]; exact (Nat.div_add_mod j E.size).symm
  have h4 : w.cell? ⟨b, o + (j / E.size * E.size + j % E.size), none⟩ = (l[j / E.size]).1[j % E.size]? := by
   rw [← Nat.add_assoc]
   exact (hx _ hd).2.2 _ hr
  rw [← e] at h4
  rw [h4]
  conv => rhs; rw [e]
  rw [flat_get E.size _ _ _ (by rw [List.length_map]; exact hd) hf hr, List.getElem_map]
end Go.Proofs.YtafhnlnhflehhaaDoor
