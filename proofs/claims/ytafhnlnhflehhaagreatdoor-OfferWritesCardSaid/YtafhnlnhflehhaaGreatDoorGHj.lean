/- Kinds of elements that are plain cells; slices of any kind that are only read. Nothing of the program; no condition. Elements that are numbers of 64 bits. Nothing of the program; no condition. Structs as variables, read and written whole at one step: at once or in a region that draws its order. No condition. Offers, wishes and hears as variables. No condition. -/
import Derived.Test.YtafhnlnhflehhaaGreatDoorGHk
import Derived.Test.YtafhnlnhflehhaaGreatDoorGBa
import Derived.Test.YtafhnlnhflehhaaGreatDoorGHi
import Derived.Test.YtafhnlnhflehhaaGreatDoorGKi
import Derived.Deep.MidRow
import Derived.Deep.OwnRows
namespace Go.Proofs.YtafhnlnhflehhaaGreatDoor
open Go.RowKit
def pureE {α : Type} (n : Nat) (f : α → List Value) (hn : 0 < n) (hl : ∀ a, (f a).length = n) (h1 : ∀ a, ∀ u ∈ f a, u.oneCell' = true) : Elt α where
 size := n
 R := fun _ _ a c => c = f a
 Ok := fun _ _ => True
 pos := hn
 len := fun e => by rw [e]; exact hl _
 one := fun e u hu => by rw [e] at hu; exact h1 _ u hu
 bw := fun e _ => e
 up := fun e _ => e
 still := fun e _ _ => e
 old := fun e _ _ => e
variable {α : Type}
def SQ (E : Elt α) (w : World) (base : Nat) (v : Value) (n : Nat) (l : List α) : Prop := l.length = n ∧ ∃ xs, Sls w E.size v n xs ∧ EL E w base l xs
theorem EQ.sq {E : Elt α} {T : TypeId} {w : World} {base : Nat} {v : Value} {n : Nat} {l : List α} (h : EQ E T w base v n l) : SQ E w base v n l := by
 obtain ⟨h1, xs, h2, h3⟩ := h
 exact ⟨h1, xs, h2.sls, h3⟩
theorem SQ.bw {E : Elt α} {a b : World} {base : Nat} {v : Value} {n : Nat} {l : List α} (h : SQ E a base v n l) (hb : BW a b) : SQ E b base v n l := by
 obtain ⟨h1, xs, h2, h3⟩ := h
 exact ⟨h1, xs, h2.bw hb, h3.mono fun _ _ h => E.bw h hb⟩
theorem SQ.len {E : Elt α} {w : World} {base : Nat} {v : Value} {n : Nat} {l : List α} (h : SQ E w base v n l) : ∃ sa cap, v = .slice sa n cap ∧ n ≤ cap ∧ cap ≤ maxLen := h.2.choose_spec.1.len
theorem SQ.still {E : Elt α} {w w' : World} {base : Nat} {v : Value} {n : Nat} {l : List α} (h : SQ E w base v n l) {S : List Nat} (hs : Still S w w') (hS : ∀ k ∈ S, E.Ok w k) (hv : ∀ g, v.ownBlock = some g → g ∉ S) : SQ E w' base v n l := by
 obtain ⟨h1, xs, h2, h3⟩ := h
 exact ⟨h1, xs, h2.still hs hv, h3.mono fun _ _ h => E.still h hs hS⟩
theorem SQ.form {E : Elt α} {w : World} {base : Nat} {v : Value} {n : Nat} {l : List α} (h : SQ E w base v n l) (h0 : 0 < n) :
  ∃ g o cap, v = .slice (some ⟨g, o, Option.none⟩) n cap ∧ g < w.heap.size ∧ n ≤ cap ∧ cap ≤ maxLen ∧ ∀ i (_ : i < l.length), ∃ c, E.R w base l[i] c ∧ ∀ j, j < E.size → w.cell? ⟨g, o + (i * E.size + j), Option.none⟩ = c[j]? := by
 obtain ⟨h1, xs, h2, h3⟩ := h
 obtain ⟨b, o, cap, rfl, hc, hm, hlt, hx⟩ := h2.form h0
 refine ⟨b, o, cap, rfl, hlt, hc, hm, fun i hi => ?_⟩
 obtain ⟨c, hR, hce⟩ := h3.get i hi
 refine ⟨c, hR, fun j hj => ?_⟩
 rw [hx _ (by rw [h1] at hi; have := Nat.mul_le_mul_right E.size (show i + 1 ≤ n by omega); rw [Nat.succ_mul] at this; omega), hce j hj]
theorem SQ.own {E : Elt α} {w : World} {base : Nat} {v : Value} {n : Nat} {l : List α} (h : SQ E w base v n l) (h0 : 0 < n) : ∀ k, v.ownBlock = some k → k < w.heap.size := by
 obtain ⟨g, o, cap, rfl, hlt, _⟩ := h.form h0
 intro k hk
 cases hk
 exact hlt
theorem list_of {α β : Type} (R : α → β → Prop) : ∀ n (f : Nat → β), (∀ i, i < n → ∃ a, R a (f i)) → ∃ l : List α, l.length = n ∧ ∀ i (_ : i < l.length), R l[i] (f i)
 | 0, _, _ => ⟨[], rfl, fun i h => by simp at h⟩
 | n + 1, f, h => by
  obtain ⟨l, h1, h2⟩ := list_of R n (fun i => f (i + 1)) (fun i hi => h (i + 1) (by omega))
  obtain ⟨a, ha⟩ := h 0 (by omega)
  refine ⟨a :: l, by simp [h1], fun i hi => ?_⟩
  match i, hi with
  | 0, _ => exact ha
  | i + 1, hi => exact h2 i (by simpa using hi)
theorem EL.of {E : Elt α} {w : World} {base : Nat} : ∀ (l : List (List Value × α)), (∀ p ∈ l, E.R w base p.2 p.1) → EL E w base (l.map Prod.snd) (l.map Prod.fst).flatten
 | [], _ => rfl
 | p :: l, h => ⟨p.1, (l.map Prod.fst).flatten, rfl, h p (List.mem_cons_self), EL.of l fun q hq => h q (List.mem_cons_of_mem _ hq)⟩
theorem flat_len {β : Type} (s : Nat) : ∀ (l : List (List β)), (∀ p ∈ l, p.length = s) → l.flatten.length = l.length * s
 | [], _ => by simp
 | p :: l, h => by
  rw [List.flatten_cons, List.length_append, flat_len s l (fun q hq => h q (List.mem_cons_of_mem _ hq)), h p (List.mem_cons_self), List.length_cons, Nat.succ_mul]
  omega
theorem flat_get {β : Type} (s : Nat) : ∀ (l : List (List β)) (i j : Nat) (hi : i < l.length), (∀ p ∈ l, p.length = s) → j < s → l.flatten[i * s + j]? = l[i][j]?
 | p :: l, 0, j, _, h, hj => by
  have hp := h p (List.mem_cons_self)
  rw [List.flatten_cons, Nat.zero_mul, Nat.zero_add, List.getElem?_append_left (by omega)]
  rfl
 | p :: l, i + 1, j, hi, h, hj => by
  have hp := h p (List.mem_cons_self)
  rw [List.flatten_cons, Nat.succ_mul, show i * s + s + j = p.length + (i * s + j) by omega, List.getElem?_append_right (by omega), Nat.add_sub_cancel_left, flat_get s l i j (by simpa using hi) (fun q hq => h q (List.mem_cons_of_mem _ hq)) hj]
  rfl
theorem SQ_of_Rd {E : Elt α} (φ : α → Prop) (e : Ty) {w : World} (base : Nat) {sa : Option Addr} {n cap : Nat} (h : Rd w (.loop e) [.slice sa n cap]) (hsz : tsize e = E.size) (hR : ∀ cs, Rd w e cs → ∃ a, φ a ∧ E.R w base a cs) : ∃ l, SQ E w base (.slice sa n cap) n l ∧ ∀ a ∈ l, φ a := by
 have hp : 0 < tsize e := by rw [hsz]; exact E.pos
 obtain ⟨h1, h2, h3⟩ := Rd.slice_at h hp
 have hz : n = 0 → (sa = none → cap = 0) → ∃ l, SQ E w base (.slice sa n cap) n l ∧ ∀ a ∈ l, φ a := fun h0 hc => by
  subst h0
  refine ⟨[], ?_, fun a ha => by cases ha⟩
  exact ⟨rfl, [], ⟨by simp, Nat.zero_le _, .inl ⟨rfl, sa, cap, rfl, hc, h2⟩⟩, rfl⟩
 rcases h3 with ⟨_, h0, hc⟩ | ⟨hc, h0, _⟩ | ⟨b, o, rfl, hb, _, hi⟩
 ·exact hz h0 fun _ => hc
 ·exact hz h0 fun _ => hc
 obtain ⟨l, hl, hx⟩ := list_of (fun (p : List Value × α) (i : Nat) => p.1.length = E.size ∧ (φ p.2 ∧ E.R w base p.2 p.1) ∧ ∀ j, j < E.size → w.cell? ⟨b, o + i * E.size + j, none⟩ = p.1[j]?) n id (fun i hin => by
  obtain ⟨cs, k1, k2, k3⟩ := hi i (by omega)
  obtain ⟨a, ha⟩ := hR cs k2
  rw [hsz] at k1 k3
  exact ⟨(cs, a), k1, ha, k3⟩)
 have hm : ∀ p ∈ l, p.1.length = E.size ∧ φ p.2 ∧ E.R w base p.2 p.1 := fun p hp => by
  obtain ⟨i, hi, rfl⟩ := List.mem_iff_getElem.1 hp
  exact ⟨(hx i hi).1, (hx i hi).2.1⟩
 have hf : ∀ q ∈ l.map Prod.fst, q.length = E.size := fun q hq => by
  obtain ⟨p, hp, rfl⟩ := List.mem_map.1 hq
  exact (hm p hp).1
 refine ⟨l.map Prod.snd, ⟨by rw [List.length_map, hl], (l.map Prod.fst).flatten, ⟨?_, Nat.le_trans h1 h2, ?_⟩, EL.of l fun p hp => (hm p hp).2.2⟩, fun a ha => by obtain ⟨p, hp, rfl⟩ := List.mem_map.1 ha; exact (hm p hp).2.1⟩
 ·rw [flat_len E.size _ hf, List.length_map, hl]
 ·by_cases h0 : n = 0
  ·subst h0
   exact .inl ⟨rfl, _, _, rfl, (fun e => by cases e), h2⟩
  refine .inr ⟨b, o, cap, rfl, h1, h2, hb, fun j hj => ?_⟩
  have hs0 := E.pos
  have hd : j / E.size < l.length := by rw [hl]; exact Nat.div_lt_of_lt_mul (by rw [Nat.mul_comm]; exact hj)
  have hr : j % E.size < E.size := Nat.mod_lt _ hs0
  have e : j = j / E.size * E.size + j % E.size := by rw [Nat.mul_comm]; exact (Nat.div_add_mod j E.size).symm
  have h4 : w.cell? ⟨b, o + (j / E.size * E.size + j % E.size), none⟩ = (l[j / E.size]).1[j % E.size]? := by
   rw [← Nat.add_assoc]
   exact (hx _ hd).2.2 _ hr
  rw [← e] at h4
  rw [h4]
  conv => rhs; rw [e]
  rw [flat_get E.size _ _ _ (by rw [List.length_map]; exact hd) hf hr, List.getElem_map]
end Go.Proofs.YtafhnlnhflehhaaGreatDoor

namespace Go.Proofs.YtafhnlnhflehhaaGreatDoor
open Go.RowKit
theorem still_setR (w : World) (g o : Nat) (v : Value) : Still [g] w (w.setCell ⟨g, o, none⟩ v) :=
 ⟨rfl, rfl, rfl, by simp [World.setCell], fun k _ hk => hp_oth (by simpa using hk)⟩
def I1 : Elt Int where
 size := 1
 R := fun _ _ a c => c = [.int .i64 a]
 Ok := fun _ _ => True
 pos := by decide
 len := fun e => by rw [e]; rfl
 one := fun e u hu => by rw [e] at hu; simp at hu; rw [hu]; rfl
 bw := fun e _ => e
 up := fun e _ => e
 still := fun e _ _ => e
 old := fun e _ _ => e
end Go.Proofs.YtafhnlnhflehhaaGreatDoor

namespace Go.Proofs.YtafhnlnhflehhaaGreatDoor
open Go.RowKit
structure SwT (T : TypeId) (n : Nat) : Prop where
 hu : ∃ d, Tryz.prog.underlying T = some d ∧ (match d with | .struct _ | .array _ _ => true | _ => false) = true ∧ d.isRow = true
 hi : (Tryz.prog.info? T).map (·.size) = some n
theorem still_rowS (w : World) (g : Nat) (cs : Array Value) : Still [g] w (w.setRow g cs) :=
 ⟨rfl, rfl, rfl, by simp [World.setRow], fun k _ hk => by
  simp only [World.setRow, Array.getElem?_modify]
  rw [if_neg (fun e => hk (by simp [e]))]⟩
theorem HpB.rowS {w : World} {g : Nat} {c : Array Value} {T : TypeId} (h : HpB w g (.cells c T)) (cs : Array Value) : HpB (w.setRow g cs) g (.cells cs T) := hp_row h cs
theorem HpB.range {w : World} {g : Nat} {c : Array Value} {T : TypeId} (h : HpB w g (.cells c T)) (off : Nat) (l : List Value) (hl : (c.toList.drop off).take l.length = l) : w.rangeAt g off l := fun j v hv => by
 have hj : j < l.length := (List.getElem?_eq_some_iff.1 hv).1
 refine (hp_cell h (off + j)).trans ?_
 rw [← hl, List.getElem?_take, if_pos hj, List.getElem?_drop] at hv
 rw [← hv]; simp
section
variable {T : TypeId} {n : Nat} {ops : Array Oper} {rest : List Oper} {o : Oper} {a : Act} {w : World} {Q : Exit → Act → World → Prop}
theorem swLd (hT : SwT T n) (hgd : o.guard = none) {x : Operand} (ho : o.op = .load T x) {g : Nat} (hx : a.eval x = .pointer (some ⟨g, 0, none⟩)) {c : Array Value} {t : TypeId} (H : HpB w g (.cells c t)) (hl : c.size = n)
  (h : wpList Tryz.prog ops Q rest (a.put o.dst (.agg c)) w) : wpList Tryz.prog ops Q (o :: rest) a w :=
 have ⟨d, h1, h2, _⟩ := hT.hu
 wpList_load_row hgd T x ho _ hx _ _ _ _ H h1 (by cases d <;> first | rfl | cases h2) (by rw [hT.hi, hl]) h
theorem swLdM (hT : SwT T n) (hgd : o.guard = none) {x : Operand} (ho : o.op = .load T x) {g off : Nat} (hx : a.eval x = .pointer (some ⟨g, off, none⟩)) {l : List Value} (H : w.rangeAt g off l) (hl : l.length = n)
  (h : wpList Tryz.prog ops Q rest (a.put o.dst (.agg l.toArray)) w) : wpList Tryz.prog ops Q (o :: rest) a w :=
 have ⟨_, h1, _, h2⟩ := hT.hu
 wpList_load_mid hgd T x ho g off hx _ _ H h1 h2 (by rw [hT.hi, hl]) h
theorem swStN (hT : SwT T n) (hgd : o.guard = none) {x y : Operand} (ho : o.op = .store T x y) {k z : Array Value} {t : TypeId} (hx : a.eval x = .pointer (some ⟨w.heap.size, 0, none⟩)) (hy : a.eval y = .agg k) (hz : z.size = n) (hk : k.size = n) (h1 : k.all (·.oneCell') = true)
  (h : wpList Tryz.prog ops Q rest (a.put o.dst undef) (w.alloc (.cells k t))) : wpList Tryz.prog ops Q (o :: rest) a (w.alloc (.cells z t)) :=
 wpList_store_new hgd T x y ho _ _ t hx hy (by rw [hT.hi, hk]) (by rw [hz, hk]) h1 h
theorem swSt (hT : SwT T n) (hgd : o.guard = none) {x y : Operand} (ho : o.op = .store T x y) {g : Nat} {k z : Array Value} {t : TypeId} (hx : a.eval x = .pointer (some ⟨g, 0, none⟩)) (hy : a.eval y = .agg k) (H : HpB w g (.cells z t)) (hz : z.size = n) (hk : k.size = n) (h1 : k.all (·.oneCell') = true)
  (h : wpList Tryz.prog ops Q rest (a.put o.dst undef) (w.setRow g k)) : wpList Tryz.prog ops Q (o :: rest) a w :=
 wpList_store_row hgd T x y ho g _ hx hy _ _ H (by rw [hT.hi, hk]) (by rw [hz, hk]) h1 h
theorem swStO (hT : SwT T n) {x y : Operand} (ho : o.op = .store T x y) {g : Nat} {k z : Array Value} {t : TypeId} {K : Act → World → Prop} {Q : Exit → Act → World → Prop} (hx : a.eval x = .pointer (some ⟨g, 0, none⟩)) (hy : a.eval y = .agg k) (H : HpB w g (.cells z t)) (hz : z.size = n) (hk : k.size = n) (h1 : k.all (·.oneCell') = true)
  (h : K (a.put o.dst undef) (w.setRow g k)) : o.wp Tryz.prog a w K Q :=
 wp_store_row T x y ho g _ hx hy _ _ H (by rw [hT.hi, hk]) (by rw [hz, hk]) h1 h
theorem swLdO (hT : SwT T n) {x : Operand} (ho : o.op = .load T x) {g off : Nat} {l : List Value} {K : Act → World → Prop} {Q : Exit → Act → World → Prop} (hx : a.eval x = .pointer (some ⟨g, off, none⟩)) (H : w.rangeAt g off l) (hl : l.length = n)
  (h : K (a.put o.dst (.agg l.toArray)) w) : o.wp Tryz.prog a w K Q :=
 have ⟨_, h1, _, h2⟩ := hT.hu
 wp_load_mid T x ho g off hx _ _ H h1 h2 (by rw [hT.hi, hl]) h
theorem swLdC (hT : SwT T n) (hgd : o.guard = none) {x : Operand} (ho : o.op = .load T x) {g off : Nat} (hx : a.eval x = .pointer (some ⟨g, off, none⟩)) {c : Array Value} (H : w.rangeAt g off c.toList) (hl : c.size = n)
  (h : wpList Tryz.prog ops Q rest (a.put o.dst (.agg c)) w) : wpList Tryz.prog ops Q (o :: rest) a w := swLdM hT hgd ho hx H hl h
theorem swLdOC (hT : SwT T n) {x : Operand} (ho : o.op = .load T x) {g off : Nat} {c : Array Value} {K : Act → World → Prop} {Q : Exit → Act → World → Prop} (hx : a.eval x = .pointer (some ⟨g, off, none⟩)) (H : w.rangeAt g off c.toList) (hl : c.size = n)
  (h : K (a.put o.dst (.agg c)) w) : o.wp Tryz.prog a w K Q := swLdO hT ho hx H hl h
theorem swQl (hT : SwT T n) {C : World → Prop} {a1 : Act} {K : Act → Prop} {x : Operand} (ho : o.op = .load T x) {g off : Nat} (hx : a.eval x = .pointer (some ⟨g, off, none⟩)) {l : List Value} (hl : l.length = n) (h : ∀ w, C w → w.rangeAt g off l) (ha : a.put o.dst (.agg l.toArray) = a1) (hK : K a1) : o.quiet Tryz.prog a C K := by
 have ⟨_, h1, _, h2⟩ := hT.hu
 refine ⟨.agg l.toArray, fun w hw => ?_, by rw [ha]; exact hK⟩
 unfold Oper.quietAt execOp
 have := run_loadVar_mid w g off T l _ (h w hw) h1 h2 (by rw [hT.hi, hl])
 simp only [ho, hx, Instr.loadAt, Instr.sureAddr, Sem.run_bind, Sem.run_pure, Result.andThen_ok, this, Oper.quietUpon, and_self]
theorem swQlC (hT : SwT T n) {C : World → Prop} {a1 : Act} {K : Act → Prop} {x : Operand} (ho : o.op = .load T x) {g off : Nat} (hx : a.eval x = .pointer (some ⟨g, off, none⟩)) {c : Array Value} (hl : c.size = n) (h : ∀ w, C w → w.rangeAt g off c.toList) (ha : a.put o.dst (.agg c) = a1) (hK : K a1) : o.quiet Tryz.prog a C K := swQl hT ho hx hl h ha hK
end
end Go.Proofs.YtafhnlnhflehhaaGreatDoor

namespace Go.Proofs.YtafhnlnhflehhaaGreatDoor
open Go.RowKit
theorem swHe : SwT 43 3 := ⟨⟨_, Tryz.underlying43, rfl, rfl⟩, by kernel_rfl⟩
theorem swWi : SwT 41 3 := ⟨⟨_, Tryz.underlying41, rfl, rfl⟩, by kernel_rfl⟩
theorem swOf : SwT 25 3 := ⟨⟨_, Tryz.underlying25, rfl, rfl⟩, by kernel_rfl⟩
end Go.Proofs.YtafhnlnhflehhaaGreatDoor
