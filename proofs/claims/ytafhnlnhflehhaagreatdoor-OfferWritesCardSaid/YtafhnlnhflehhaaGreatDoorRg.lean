/- Regions that draw their order, walked once (second form): operations whose value hangs on nothing that is new are taken as soon as they may be (hoist), calls too; what makes memory is taken when it alone is ready (effect); what writes comes last (tail). Nothing of the program; no condition. -/
import Derived.Below
import Derived.Lib.Hide
import Derived.Deep.QuietTactic
import Derived.BigQuiet
import Derived.StillTail
import Derived.Laws.AppendOwn
namespace Go.Proofs.YtafhnlnhflehhaaGreatDoor
open Go.RowKit
section
variable {P : Program} {ops : Array Oper} {Q : Exit → Act → World → Prop}
def NoQ : Exit → Act → World → Prop := fun _ _ _ => False
structure Still (S : List Nat) (w w' : World) : Prop where
 os : w'.os = w.os
 tape : w'.tape = w.tape
 output : w'.output = w.output
 size : w.heap.size ≤ w'.heap.size
 block : ∀ k, k < w.heap.size → k ∉ S → w'.heap[k]? = w.heap[k]?
theorem Still.refl (S : List Nat) (w : World) : Still S w w := ⟨rfl, rfl, rfl, Nat.le_refl _, fun _ _ _ => rfl⟩
theorem Still.trans {S : List Nat} {a b c : World} (h : Still S a b) (k : Still S b c) : Still S a c :=
 ⟨k.os.trans h.os, k.tape.trans h.tape, k.output.trans h.output, Nat.le_trans h.size k.size, fun i hi hs => (k.block i (Nat.lt_of_lt_of_le hi h.size) hs).trans (h.block i hi hs)⟩
theorem Still.of_below {S : List Nat} {w w' : World} (h : Below w.heap.size w w') : Still S w w' := ⟨h.os, h.tape, h.output, h.size, fun k hk _ => h.block k hk⟩
theorem Still.of_row {w w' : World} {row : Option Nat} (h : w.grownBy w' row) : Still row.toList w w' :=
 ⟨h.os, h.tape, h.output, h.size, fun k hk hs => h.block k hk (fun e => hs (by rw [← e]; simp))⟩
theorem Still.below {S : List Nat} {w w' : World} {B : Nat} (h : Still S w w') (hB : B ≤ w.heap.size) (hS : ∀ k ∈ S, B ≤ k) : Below B w w' :=
 ⟨h.os, h.tape, h.output, h.size, fun k hk => h.block k (by omega) (fun hs => by have := hS k hs; omega)⟩
structure LaterS (S : List Nat) (w : World) where
 now : World
 ok : Still S w now
def LaterS.first (S : List Nat) (w : World) : LaterS S w := ⟨w, Still.refl _ _⟩
instance (S : List Nat) (w : World) : Nonempty (LaterS S w) := ⟨LaterS.first S w⟩
def LaterS.up {S : List Nat} {w : World} (x : LaterS S w) (y : LaterS S x.now) : LaterS S w := ⟨y.now, x.ok.trans y.ok⟩
theorem LaterS.heap {S : List Nat} {w : World} (x : LaterS S w) {b : Nat} {o : Obj} (h : w.heap[b]? = some o) (hs : b ∉ S) : x.now.heap[b]? = some o := by
 rw [x.ok.block b (Array.getElem?_eq_some_iff.1 h).1 hs]; exact h
theorem LaterS.cell {S : List Nat} {w : World} (x : LaterS S w) {a : Addr} {v : Value} (h : w.cell? a = some v) (hs : a.block ∉ S) : x.now.cell? a = some v := by
 rw [World.cell?_of_block (w := w) (x.ok.block a.block (World.block_lt_of_cell? _ _ h) hs)]; exact h
theorem LaterS.next {S : List Nat} {w : World} {x : LaterS S w} {w' : World} (h : Below x.now.heap.size x.now w') : ∃ y : LaterS S x.now, w' = y.now := ⟨⟨w', Still.of_below h⟩, rfl⟩
theorem Calls.laterS_of {S : List Nat} {w : World} {y : LaterS S w} {f : FuncId} {args : Array Value} {v : Value}
  (h : Calls P f args y.now fun e w' => e = .returned v ∧ Below y.now.heap.size y.now w') : Calls P f args y.now fun e w'' => e = .returned v ∧ ∃ z : LaterS S w, w'' = z.now :=
 h.mono fun _ _ ⟨he, hb⟩ => ⟨he, ⟨y.up ⟨_, Still.of_below hb⟩, rfl⟩⟩
def Closed (ops : Array Oper) (listed : Array Bool) : Prop := ∀ j oj, ops[j]? = some oj → listed.getD j false = true → ∀ e ∈ oj.after, Region.binds .any e = true → listed.getD e.on false = true
theorem Closed.set {listed : Array Bool} {i : Nat} (h : Closed ops listed) (hi : i ∈ Region.ready .any ops listed) : Closed ops (listed.setIfInBounds i true) := by
 obtain ⟨_, oi, hoi, hall⟩ := mem_ready.1 hi
 intro j oj hj hl e he hb
 by_cases hij : i = j
 ·subst hij
  have : oj = oi := Option.some.inj (hj.symm.trans hoi)
  subst this
  exact getD_set_true (hall e he hb)
 ·rw [getD_set_ne false hij] at hl
  exact getD_set_true (h j oj hj hl e he hb)
structure Flt where
 B : Nat
 d : Option Nat
 val : Nat → Value
 o : Obj
def fin : List Flt → (Act → World → Prop) → Act → World → Prop
 | [], X, a, w => X a w
 | F :: r, X, a, w => ∀ g, F.B ≤ g → w.heap[g]? = some F.o → fin r X (a.put F.d (F.val g)) w
theorem fin_nil {X : Act → World → Prop} {a : Act} {w : World} (h : X a w) : fin [] X a w := h
theorem fin_mono {X Y : Act → World → Prop} : ∀ (fl : List Flt) {a : Act} {w : World}, (∀ a, X a w → Y a w) → fin fl X a w → fin fl Y a w
 | [], _, _, h, hx => h _ hx
 | F :: r, _, _, h, hx => fun g hg ho => fin_mono r h (hx g hg ho)
def StO : Option (List Nat) → World → World → Prop
 | some S, w, w' => Still S w w'
 | none, _, _ => True
theorem StO.of {o : Option (List Nat)} {w w' : World} (h : Still [] w w') : StO o w w' := by
 cases o with
 | none => trivial
 | some S => exact ⟨h.os, h.tape, h.output, h.size, fun k hk _ => h.block k hk (by simp)⟩
def wpG (P : Program) (ops : Array Oper) (S : Nat → Option (List Nat)) (wild : Nat → Bool) (fl : List Flt) (Q : Exit → Act → World → Prop) : Nat → Array Bool → Act → World → Prop
 | 0, listed, a, w => Region.ready .any ops listed = [] ∧ fin fl (Q .normal) a w
 | f + 1, listed, a, w => (Region.ready .any ops listed = [] → fin fl (Q .normal) a w) ∧
  ∀ j ∈ Region.ready .any ops listed,
   if wild j = true then fin fl (wpOp P ops Q j (wpAny P .any ops Q f (listed.setIfInBounds j true))) a w
   else wpOp P ops NoQ j (fun a' w' => StO (S j) w w' ∧ ∀ y : LaterS [] w', wpG P ops S wild fl Q f (listed.setIfInBounds j true) a' y.now) a w
theorem wpOp_noQ {i : Nat} {a : Act} {w : World} {K : Act → World → Prop} (h : wpOp P ops NoQ i K a w) : wpOp P ops Q i K a w := by
 unfold wpOp at *
 split
 ·rename_i ho; simp only [ho] at h; exact h
 ·rename_i o ho
  simp only [ho] at h
  split
  ·rename_i hw
   simp only [hw, if_true] at h
   rcases h with h | ⟨_, _, _, h⟩
   ·refine .inl ?_
    unfold Oper.wp at *
    generalize (execOp a.eval o).run P w = r at *
    cases r with
    | ok n w' =>
     cases n <;> simp only [Oper.upon] at h ⊢ <;> first
      | exact h
      | exact h.mono fun e w'' he => by cases e <;> first | exact he | exact he.elim | (obtain ⟨_, _, he⟩ := he; exact he.elim)
    | halt x w' => cases x <;> simp only [Oper.upon] at h ⊢ <;> exact h.elim
   ·exact h.elim
  ·rename_i hw; simp only [hw] at h; exact h
theorem wpAny_of_wpG {S : Nat → Option (List Nat)} {wild : Nat → Bool} : ∀ (f : Nat) (listed : Array Bool) (a : Act) (w : World), wpG P ops S wild [] Q f listed a w → wpAny P .any ops Q f listed a w
 | 0, _, _, _, h => h
 | f + 1, listed, a, w, h => ⟨h.1, fun j hj => by
  have := h.2 j hj
  split at this
  ·exact this
  ·refine wpOp_mono (fun a' w' h' => ?_) (wpOp_noQ this)
   have h2 := h'.2 (LaterS.first [] w')
   exact wpAny_of_wpG f _ a' w' h2⟩
theorem Still.weaken {S S' : List Nat} {w w' : World} (h : Still S w w') (hS : S ⊆ S') : Still S' w w' := ⟨h.os, h.tape, h.output, h.size, fun k hk hs => h.block k hk (fun hm => hs (hS hm))⟩
def LaterS.wide {S S' : List Nat} {w : World} (x : LaterS S w) (hS : S ⊆ S') : LaterS S' w := ⟨x.now, x.ok.weaken hS⟩
def Oper.mildUpon (P : Program) (S : List Nat) (w : World) (v : Value) : Result Next → Prop
 | .ok (.value u) w' => w' = w ∧ u = v
 | .ok .skip w' => w' = w ∧ v = undef
 | .ok (.enter f args) w' => w' = w ∧ Calls P f args w (fun e w'' => e = .returned v ∧ Still [] w w'')
 | _ => False
def Mild (P : Program) (ops : Array Oper) (S : List Nat) (o : Oper) (v : Value) (a : Act) (w : World) : Prop :=
 (Region.wanted o (yielded ops a.tmps) = true ∧ ∀ x : LaterS S w, Oper.mildUpon P S x.now v ((execOp a.eval o).run P x.now)) ∨
 (Region.wanted o (yielded ops a.tmps) = false ∧ v = undef)
theorem Mild.later {S : List Nat} {o : Oper} {v : Value} {a : Act} {w : World} (h : Mild P ops S o v a w) (x : LaterS S w) : Mild P ops S o v a x.now := by
 rcases h with ⟨h1, h2⟩ | h
 ·exact .inl ⟨h1, fun y => h2 (x.up y)⟩
 ·exact .inr h
def SameFor (ops : Array Oper) (o : Oper) (a a' : Act) : Prop := execOp a'.eval o = execOp a.eval o ∧ Region.wanted o (yielded ops a'.tmps) = Region.wanted o (yielded ops a.tmps)
theorem Mild.same {S : List Nat} {o : Oper} {v : Value} {a a' : Act} {w : World} (h : Mild P ops S o v a w) (hs : SameFor ops o a a') : Mild P ops S o v a' w := by
 unfold Mild at *
 rw [hs.1, hs.2]; exact h
theorem Mild.op {S : List Nat} {i : Nat} {o : Oper} {v : Value} {a : Act} {w : World} (hi : ops[i]? = some o) (h : Mild P ops S o v a w) (x : LaterS S w) {K : Act → World → Prop}
  (hK : ∀ w', Still [] x.now w' → K (a.put o.dst v) w') : wpOp P ops NoQ i K a x.now := by
 unfold wpOp
 simp only [hi]
 rcases h with ⟨hw, hv⟩ | ⟨hw, rfl⟩
 ·simp only [hw, if_true]
  refine .inl ?_
  have := hv x
  unfold Oper.wp
  generalize (execOp a.eval o).run P x.now = r at *
  cases r with
  | ok n w' =>
   cases n <;> simp only [Oper.mildUpon] at this <;> simp only [Oper.upon]
   case value u => obtain ⟨rfl, rfl⟩ := this; exact hK _ (Still.refl _ _)
   case skip => obtain ⟨rfl, rfl⟩ := this; exact hK _ (Still.refl _ _)
   case enter f args =>
    obtain ⟨rfl, hc⟩ := this
    exact hc.mono fun e w'' ⟨he, hb⟩ => by subst he; exact hK _ hb
  | halt _ _ => simp only [Oper.mildUpon] at this
 ·simp only [hw]; exact hK _ (Still.refl _ _)
theorem wpOp_apart {j : Nat} {oi oj : Oper} {v : Value} (hj : ops[j]? = some oj) (hap : oi.apart ops oj = true) (hsi : ∀ cs b, oi.op ≠ .select cs b) (hsj : ∀ cs b, oj.op ≠ .select cs b)
  {K : Act → World → Prop} {a : Act} {w : World} (h : wpOp P ops NoQ j K (a.put oi.dst v) w) :
  wpOp P ops NoQ j (fun a' w' => SameFor ops oi a a' ∧ K (a'.put oi.dst v) w') a w := by
 obtain ⟨h1, h2, h3⟩ := Oper.apart_spec hap
 have keep : ∀ u, SameFor ops oi a (a.put oj.dst u) := fun u => ⟨execOp_put oi hsi a oj.dst u h3, wanted_put oi a oj.dst u h3⟩
 unfold wpOp at *
 simp only [hj] at *
 rw [wanted_put oj a oi.dst v h1] at h
 split
 ·rename_i hw
  simp only [hw, if_true] at h
  rcases h with h | ⟨_, _, _, hl⟩
  case inr => exact hl.elim
  refine .inl ?_
  unfold Oper.wp at *
  rw [execOp_put oj hsj a oi.dst v h1] at h
  generalize (execOp a.eval oj).run P w = r at *
  cases r with
  | ok n w' =>
   cases n <;> simp only [Oper.upon] at h ⊢
   case value u => exact ⟨keep u, by rw [← Act.put_comm a v u h2]; exact h⟩
   case skip => exact ⟨keep _, by rw [← Act.put_comm a v undef h2]; exact h⟩
   case defer d =>
    refine ⟨⟨execOp_put oi hsi { a with defers := d :: a.defers } oj.dst undef h3, wanted_put oi { a with defers := d :: a.defers } oj.dst undef h3⟩, ?_⟩
    rw [← Act.put_comm _ v undef h2, ← Act.put_defers]
    exact h
   case enter f args =>
    refine Calls.mono h fun e w'' he => ?_
    cases e with
    | returned u => exact ⟨keep u, by rw [← Act.put_comm a v u h2]; exact he⟩
    | panicked c => exact he.elim
    | outgrown => obtain ⟨_, _, he⟩ := he; exact he.elim
   case row row args => exact Rows.mono h fun u w'' he => ⟨keep u, by rw [← Act.put_comm a v u h2]; exact he⟩
  | halt x w' => cases x <;> simp only [Oper.upon] at h ⊢ <;> exact h
 ·rename_i hw
  simp only [hw] at h
  exact ⟨keep _, by rw [← Act.put_comm a v undef h2]; exact h⟩
theorem hoist_all {fl : List Flt} {S : Nat → Option (List Nat)} {Si : List Nat} (pure : Bool) {wild : Nat → Bool} {i : Nat} {oi : Oper} {v : Value} (hi : ops[i]? = some oi) (hsel : ∀ (j : Nat) (o : Oper) cs b, ops[j]? = some o → o.op ≠ .select cs b)
  (hwi : wild i = false) :
  ∀ (f : Nat) (listed : Array Bool) (a : Act) (w : World), Closed ops listed →
   (∀ (j : Nat) (l' : Array Bool), Closed ops l' → (∀ k, listed.getD k false = true → l'.getD k false = true) → l'.getD i false = false → j ≠ i → j ∈ Region.ready .any ops l' → wild j = false ∧ (pure = true ∨ ∃ L, S j = some L ∧ L ⊆ Si)) →
   (∀ j oj, ops[j]? = some oj → j ≠ i → listed.getD j true = false → (∀ e ∈ oj.after, Region.binds .any e = true → e.on ≠ i) → oi.apart ops oj = true) →
   i ∈ Region.ready .any ops listed → Mild P ops Si oi v a w → (pure = true → ∀ w', Mild P ops Si oi v a w') →
   (∀ x : LaterS [] w, wpG P ops S wild fl Q f (listed.setIfInBounds i true) (a.put oi.dst v) x.now) → ∀ x : LaterS [] w, wpG P ops S wild fl Q (f + 1) listed a x.now := by
 intro f
 induction f with
 | zero =>
  intro listed a w _ _ _ hr hy _ H x
  refine ⟨fun h => (by rw [h] at hr; cases hr), fun j hj => ?_⟩
  by_cases hji : j = i
  ·subst hji
   rw [if_neg (by rw [hwi]; exact Bool.false_ne_true)]
   exact hy.op hi (x.wide (List.nil_subset _)) fun w' hb => ⟨StO.of hb, fun y => H (x.up (⟨w', hb⟩ : LaterS [] x.now) |>.up y)⟩
  ·have := ready_mono hj hji
   rw [(H x).1] at this
   cases this
 | succ f ih =>
  intro listed a w hcl hcond hfree hr hy hpu H x
  have hun := (mem_ready.1 hr).1
  refine ⟨fun h => (by rw [h] at hr; cases hr), fun j hj => ?_⟩
  by_cases hji : j = i
  ·subst hji
   rw [if_neg (by rw [hwi]; exact Bool.false_ne_true)]
   exact hy.op hi (x.wide (List.nil_subset _)) fun w' hb => ⟨StO.of hb, fun y => H (x.up (⟨w', hb⟩ : LaterS [] x.now) |>.up y)⟩
  ·obtain ⟨hjun, oj, hoj, hall⟩ := mem_ready.1 hj
   have hnot : ∀ e ∈ oj.after, Region.binds .any e = true → e.on ≠ i := fun e he hb heq => by
    have h1 := hall e he hb
    rw [heq, getD_both hun] at h1
    cases h1
   obtain ⟨hwj, hSj⟩ := hcond j listed hcl (fun _ h => h) (getD_both hun) hji hj
   have hwj' : ¬ wild j = true := by rw [hwj]; exact Bool.false_ne_true
   rw [if_neg hwj']
   have h1 := (H x).2 j (ready_mono hj hji)
   rw [if_neg hwj'] at h1
   have h2 := wpOp_apart hoj (hfree j oj hoj hji hjun hnot) (fun cs b => hsel i oi cs b hi) (fun cs b => hsel j oj cs b hoj) h1
   have hfree' : ∀ k ok, ops[k]? = some ok → k ≠ i → (listed.setIfInBounds j true).getD k true = false →
     (∀ e ∈ ok.after, Region.binds .any e = true → e.on ≠ i) → oi.apart ops ok = true := fun k ok hk hki hun hno => by
    refine hfree k ok hk hki ?_ hno
    by_cases hjk : j = k
    ·subst hjk; exact hjun
    ·rw [getD_set_ne true hjk] at hun; exact hun
   refine wpOp_mono (fun a' w' h3 => ⟨h3.2.1, fun y => ?_⟩) h2
   have hmm : Mild P ops Si oi v a' w' := by
    rcases hSj with hp | ⟨L, hL, hLS⟩
    ·exact (hpu hp w').same h3.1
    ·have hst : Still Si x.now w' := by
      have h4 := h3.2.1
      rw [hL] at h4
      exact Still.weaken h4 hLS
     exact (hy.same h3.1).later ((x.wide (List.nil_subset _)).up ⟨w', hst⟩)
   refine ih (listed.setIfInBounds j true) a' w' (hcl.set hj) (fun k l' h4 h5 => hcond k l' h4 fun m hm => h5 m (getD_set_true hm)) hfree' (ready_mono hr (Ne.symm hji)) hmm (fun hp w2 => (hpu hp w2).same h3.1) (fun z => ?_) y
   rw [Array.setIfInBounds_comm _ _ hji]
   exact h3.2.2 z
def marks (i : Nat) (l : List Oper) : List Bool := l.foldl (fun m o => m ++ [o.after.any fun e => Region.binds .any e && (e.on == i || m.getD e.on false)]) []
theorem marks_spec (i : Nat) (listed : Array Bool) : ∀ (done rest : List Oper) (m : List Bool), Closed (done ++ rest).toArray listed → m.length = done.length →
  (∀ j, m.getD j false = true → ∃ oj, done[j]? = some oj ∧ ∃ e ∈ oj.after, Region.binds .any e = true ∧ (e.on = i ∨ (listed.getD e.on false = true → listed.getD i false = true))) →
  ∀ j, (rest.foldl (fun m o => m ++ [o.after.any fun e => Region.binds .any e && (e.on == i || m.getD e.on false)]) m).getD j false = true →
   ∃ oj, (done ++ rest)[j]? = some oj ∧ ∃ e ∈ oj.after, Region.binds .any e = true ∧ (e.on = i ∨ (listed.getD e.on false = true → listed.getD i false = true))
 | done, [], m, _, hm, h, j, hj => by
  simp only [List.foldl_nil, List.append_nil] at hj ⊢
  exact h j hj
 | done, o :: rest, m, hc, hm, h, j, hj => by
  have e1 : done ++ o :: rest = (done ++ [o]) ++ rest := by simp
  simp only [List.foldl_cons] at hj
  rw [e1] at hc ⊢
  refine marks_spec i listed (done ++ [o]) rest _ hc (by simp [hm]) (fun k hk => ?_) j hj
  rcases Nat.lt_or_ge k m.length with hlt | hge
  ·rw [List.getD_eq_getElem?_getD, List.getElem?_append_left hlt, ← List.getD_eq_getElem?_getD] at hk
   obtain ⟨oj, hoj, hx⟩ := h k hk
   exact ⟨oj, by rw [List.getElem?_append_left (by omega)]; exact hoj, hx⟩
  ·have hk0 : k - m.length = 0 := by
    rcases Nat.eq_zero_or_pos (k - m.length) with h0 | h0
    ·exact h0
    ·rw [List.getD_eq_getElem?_getD, List.getElem?_append_right hge, List.getElem?_eq_none (by simp; omega)] at hk; simp at hk
   rw [List.getD_eq_getElem?_getD, List.getElem?_append_right hge, hk0] at hk
   simp only [List.getElem?_cons_zero, Option.getD_some] at hk
   obtain ⟨e, he, hb⟩ := Array.any_eq_true'.1 hk
   simp only [Bool.and_eq_true, Bool.or_eq_true, beq_iff_eq] at hb
   refine ⟨o, by rw [List.getElem?_append_right (by omega), show k - done.length = 0 by omega]; rfl, e, he, hb.1, ?_⟩
   rcases hb.2 with h1 | h1
   ·exact .inl h1
   ·right
    intro hl
    obtain ⟨oj, hoj, e', he', hb', hx⟩ := h e.on h1
    have hlt : e.on < done.length := (List.getElem?_eq_some_iff.1 hoj).1
    have hoj' : (done ++ [o] ++ rest).toArray[e.on]? = some oj := by
     rw [List.append_assoc]; simp [List.getElem?_append_left hlt, hoj]
    have hl' := hc e.on oj hoj' hl e' he' hb'
    rcases hx with hx | hx
    ·rw [hx] at hl'; exact hl'
    ·exact hx hl'
theorem marks_ready {i j : Nat} {l : List Oper} {listed : Array Bool} (hc : Closed l.toArray listed) (hm : (marks i l).getD j false = true) (hj : j ∈ Region.ready .any l.toArray listed) : listed.getD i false = true := by
 obtain ⟨oj, hoj, e, he, hb, hx⟩ := marks_spec i listed [] l [] (by simpa using hc) rfl (fun j h => by simp at h) j hm
 obtain ⟨_, o', ho', hall⟩ := mem_ready.1 hj
 have : oj = o' := by
  have h1 : l[j]? = some oj := by simpa using hoj
  have h2 : l[j]? = some o' := by simpa using ho'
  exact Option.some.inj (h1.symm.trans h2)
 subst this
 have hl := hall e he hb
 rcases hx with hx | hx
 ·rw [hx] at hl; exact hl
 ·exact hx hl
def closedB (l : List Oper) (listed : List Bool) : Bool := (List.range l.length).all fun j => !listed.getD j false || match l[j]? with
 | some o => o.after.all fun e => !Region.binds .any e || listed.getD e.on false
 | none => true
theorem closedB_spec {l : List Oper} {listed : List Bool} (h : closedB l listed = true) : Closed l.toArray listed.toArray := by
 intro j oj hj hl e he hb
 have hj' : l[j]? = some oj := by simpa using hj
 have h1 := List.all_eq_true.1 h j (List.mem_range.2 (List.getElem?_eq_some_iff.1 hj').1)
 have hl' : listed.getD j false = true := by simpa using hl
 rw [hl'] at h1
 simp only [Bool.not_true, Bool.false_or, hj'] at h1
 have h2 := Array.all_eq_true_iff_forall_mem.1 h1 e he
 rw [hb] at h2
 simpa using h2
def GG (P : Program) (l : List Oper) (S : List Nat) (row wild loose : List Nat) (fl : List Flt) (Q : Exit → Act → World → Prop) (f : Nat) (listed : List Bool) (a : Act) (w : World) : Prop :=
 ∀ x : LaterS [] w, wpG P l.toArray (fun j => if loose.contains j then none else some (if row.contains j then S else [])) (fun j => wild.contains j) fl Q f listed.toArray a x.now
def okHoist (l : List Oper) (row wild loose : List Nat) (listed : List Bool) (i : Nat) : Bool :=
 Region.noSelect l.toArray && (Region.ready .any l.toArray listed.toArray).contains i && Region.free .any l.toArray listed.toArray i && !wild.contains i && closedB l listed && wild.all (fun j => (marks i l).getD j false || listed.getD j false) && row.all (fun j => (marks i l).getD j false || listed.getD j false) && loose.all (fun j => (marks i l).getD j false || listed.getD j false)
theorem okHoist_spec {fl : List Flt} {l : List Oper} {S : List Nat} {row wild loose : List Nat} {listed : List Bool} {i : Nat} {oi : Oper} {v : Value} {a : Act} {w : World} {f : Nat} (hi : l[i]? = some oi) (Si row' : List Nat)
  (hok : okHoist l row' wild loose listed i = true) (hSi : (Si = [] ∧ row' = row) ∨ Si = S)
  (hm : Mild P l.toArray Si oi v a w) (h : GG P l S row wild loose fl Q f (listed.set i true) (a.put oi.dst v) w) : GG P l S row wild loose fl Q (f + 1) listed a w := by
 simp only [okHoist, Bool.and_eq_true, Bool.not_eq_true'] at hok
 obtain ⟨⟨⟨⟨⟨⟨⟨hs, hr⟩, hf⟩, hwi⟩, hcl⟩, hww⟩, hrow⟩, hloo⟩ := hok
 have hi' : l.toArray[i]? = some oi := by simpa using hi
 refine hoist_all (v := v) (Si := Si) false hi' (Region.noSelect_spec hs) hwi f listed.toArray a w (closedB_spec hcl) (fun j l' h1 h2 h3 h4 h5 => ?_) (Region.free_spec hi' hf) (by simpa using hr) hm (fun h => by cases h) ?_
 ·have hun : listed.getD j false = false := by
   cases hq : listed.getD j false with
   | false => rfl
   | true =>
    have hq' := h2 j (by simpa using hq)
    have := getD_both (mem_ready.1 h5).1
    rw [hq'] at this; cases this
  have hnm : ¬ (marks i l).getD j false = true := fun hmk => by
   have := marks_ready h1 hmk h5
   rw [h3] at this; cases this
  have key : ∀ L : List Nat, (L.all fun j => (marks i l).getD j false || listed.getD j false) = true → L.contains j = false := fun L hL => by
   cases hq : L.contains j with
   | false => rfl
   | true =>
    have := List.all_eq_true.1 hL j (by simpa using hq)
    rw [hun] at this
    simp only [Bool.or_false] at this
    exact (hnm this).elim
  refine ⟨key wild hww, .inr ⟨_, if_neg (by rw [key loose hloo]; exact Bool.false_ne_true), ?_⟩⟩
  rcases hSi with ⟨rfl, hrw⟩ | rfl
  ·have := key row' hrow
   rw [hrw] at this
   rw [this]; simp
  ·split
   ·exact List.Subset.refl _
   ·exact List.nil_subset _
 ·intro x
  have h5 := h x
  rw [List.setIfInBounds_toArray]
  exact h5
theorem hoist {fl : List Flt} {l : List Oper} {S : List Nat} {row wild loose : List Nat} {listed : List Bool} (Si row' : List Nat) (i : Nat) {oi : Oper} {a a1 : Act} {w : World} {f d : Nat} (hi : l[i]? = some oi) (hok : okHoist l row' wild loose listed i = true) (hSi : (Si = [] ∧ row' = row) ∨ Si = S)
  (hw : Region.wanted oi (yielded l.toArray a.tmps) = true) (hd : oi.dst = some d) (hlt : Nat.ble (d + 1) a.tmps.size = true)
  (h : ∀ (x : LaterS Si w) (K : Act → Prop), K a1 → oi.quiet P a (fun w' => w' = x.now) K) (next : GG P l S row wild loose fl Q f (listed.set i true) a1 w) : GG P l S row wild loose fl Q (f + 1) listed a w := by
 obtain ⟨v, hv, he⟩ := h (LaterS.first Si w) (fun a' => a' = a1) rfl
 have hlt' : d < a.tmps.size := Nat.le_of_ble_eq_true hlt
 have hval : ∀ x : LaterS Si w, Oper.mildUpon P Si x.now v ((execOp a.eval oi).run P x.now) := fun x => by
  obtain ⟨v', hv', he'⟩ := h x (fun a' => a' = a1) rfl
  have hvv : v' = v := by
   rw [← he] at he'
   have h3 := congrArg (fun b : Act => b.tmps[d]?) he'
   simp only [Act.put, hd, Array.getElem?_setIfInBounds_self_of_lt hlt', Option.some.injEq] at h3
   exact h3
  rw [hvv] at hv'
  have h4 := hv' x.now rfl
  unfold Oper.quietAt at h4
  generalize (execOp a.eval oi).run P x.now = r at *
  cases r with
  | ok n w' =>
   cases n <;> simp only [Oper.quietUpon] at h4 <;> simp only [Oper.mildUpon]
   case enter g args => exact ⟨h4.1, h4.2.mono fun e w'' ⟨h5, h6⟩ => ⟨h5, by rw [h6]; exact Still.refl _ _⟩⟩
   all_goals exact h4
  | halt _ _ => simp only [Oper.quietUpon] at h4
 exact okHoist_spec hi Si row' hok hSi (.inl ⟨hw, hval⟩) (by rw [he]; exact next)
theorem hoist_skip {fl : List Flt} {l : List Oper} {S : List Nat} {row wild loose : List Nat} {listed : List Bool} (Si row' : List Nat) (i : Nat) {oi : Oper} {a : Act} {w : World} {f : Nat} (hi : l[i]? = some oi) (hok : okHoist l row' wild loose listed i = true) (hSi : (Si = [] ∧ row' = row) ∨ Si = S)
  (hw : Region.wanted oi (yielded l.toArray a.tmps) = false) {a1 : Act} (ha : a.put oi.dst undef = a1) (next : GG P l S row wild loose fl Q f (listed.set i true) a1 w) : GG P l S row wild loose fl Q (f + 1) listed a w :=
 okHoist_spec hi Si row' hok hSi (.inr ⟨hw, rfl⟩) (by rw [ha]; exact next)
theorem hoist_call {fl : List Flt} {l : List Oper} {S : List Nat} {row wild loose : List Nat} {listed : List Bool} (Si row' : List Nat) (i : Nat) {oi : Oper} {a a1 : Act} {w : World} {f d : Nat} (hi : l[i]? = some oi) (hok : okHoist l row' wild loose listed i = true) (hSi : (Si = [] ∧ row' = row) ∨ Si = S)
  (hw : Region.wanted oi (yielded l.toArray a.tmps) = true) (hd : oi.dst = some d) (hlt : Nat.ble (d + 1) a.tmps.size = true)
  (h : ∀ (x : LaterS Si w) (K : Act → Prop), K a1 → oi.quiet P a (fun w' => ∃ y : LaterS [] x.now, w' = y.now) K) (next : GG P l S row wild loose fl Q f (listed.set i true) a1 w) : GG P l S row wild loose fl Q (f + 1) listed a w := by
 obtain ⟨v, hv, he⟩ := h (LaterS.first Si w) (fun a' => a' = a1) rfl
 have hlt' : d < a.tmps.size := Nat.le_of_ble_eq_true hlt
 have hval : ∀ x : LaterS Si w, Oper.mildUpon P Si x.now v ((execOp a.eval oi).run P x.now) := fun x => by
  obtain ⟨v', hv', he'⟩ := h x (fun a' => a' = a1) rfl
  have hvv : v' = v := by
   rw [← he] at he'
   have h3 := congrArg (fun b : Act => b.tmps[d]?) he'
   simp only [Act.put, hd, Array.getElem?_setIfInBounds_self_of_lt hlt', Option.some.injEq] at h3
   exact h3
  rw [hvv] at hv'
  have h4 := hv' x.now ⟨LaterS.first [] x.now, rfl⟩
  unfold Oper.quietAt at h4
  generalize (execOp a.eval oi).run P x.now = r at *
  cases r with
  | ok n w' =>
   cases n <;> simp only [Oper.quietUpon] at h4 <;> simp only [Oper.mildUpon]
   case enter g args => exact ⟨h4.1, h4.2.mono fun e w'' ⟨h5, y, h6⟩ => ⟨h5, by rw [h6]; exact y.ok⟩⟩
   all_goals exact h4
  | halt _ _ => simp only [Oper.quietUpon] at h4
 exact okHoist_spec hi Si row' hok hSi (.inl ⟨hw, hval⟩) (by rw [he]; exact next)
theorem effect {fl : List Flt} {l : List Oper} {S : List Nat} {row wild loose : List Nat} {listed : List Bool} (i : Nat) {oi : Oper} {a : Act} {w : World} {f : Nat} (hi : l[i]? = some oi) (hr : Region.ready .any l.toArray listed.toArray = [i]) (hwi : wild.contains i = false)
  (hw : Region.wanted oi (yielded l.toArray a.tmps) = true)
  (h : ∀ (x : LaterS [] w) (K : Act → World → Prop), (∀ a' w', Still (if row.contains i then S else []) x.now w' → GG P l S row wild loose fl Q f (listed.set i true) a' w' → K a' w') → oi.wp P a x.now K NoQ) : GG P l S row wild loose fl Q (f + 1) listed a w := by
 intro x
 refine ⟨fun h0 => absurd (hr.symm.trans h0) (by simp), fun j hj => ?_⟩
 rw [hr] at hj
 have hji : j = i := by simpa using hj
 subst hji
 rw [if_neg (by show ¬ wild.contains j = true; rw [hwi]; exact Bool.false_ne_true)]
 unfold wpOp
 have hi' : l.toArray[j]? = some oi := by simpa using hi
 simp only [hi', hw, if_true]
 refine .inl (h x _ fun a' w' hb hg => ⟨?_, fun y => ?_⟩)
 ·cases hl : loose.contains j with
  | true => trivial
  | false => exact hb
 have h5 := hg y
 rw [List.setIfInBounds_toArray]
 exact h5
theorem tailF {fl : List Flt} {l : List Oper} {S : List Nat} {row wild loose : List Nat} {listed : List Bool} (k : Nat) {a : Act} {w : World} {f : Nat} (hf : f = l.length - k) (hB : Region.seqB .any l.toArray f k listed.toArray = true) (hwild : wild.contains k = true)
  (h : ∀ x : LaterS [] w, fin fl (wpList P l.toArray Q (l.drop k)) a x.now) : GG P l S row wild loose fl Q f listed a w := by
 intro x
 have hl : (l.drop k).length = f := by rw [List.length_drop]; exact hf.symm
 have h1 := fin_mono fl (fun b hb => wpAny_of_seq (md := .any) (P := P) (ops := l.toArray) (Q' := Q) (l.drop k) k listed.toArray b x.now (fun j => by simp [List.getElem?_drop]) (by rw [hl]; exact hB) hb) (h x)
 rw [hl] at h1
 cases f with
 | zero =>
  have hr : Region.ready .any l.toArray listed.toArray = [] := by
   simpa [Region.seqB] using hB
  exact ⟨hr, fin_mono fl (fun b hb => hb.2) h1⟩
 | succ f =>
  refine ⟨fun h0 => fin_mono fl (fun b hb => hb.1 h0) h1, fun j hj => ?_⟩
  simp only [Region.seqB, Bool.and_eq_true, decide_eq_true_eq] at hB
  have hjk : j = k := by rw [hB.1] at hj; simpa using hj
  subst hjk
  rw [if_pos hwild]
  exact fin_mono fl (fun b hb => hb.2 j hj) h1
theorem tail {l : List Oper} {S : List Nat} {row wild loose : List Nat} {listed : List Bool} (k : Nat) {a : Act} {w : World} {f : Nat} (hf : f = l.length - k) (hB : Region.seqB .any l.toArray f k listed.toArray = true) (hwild : wild.contains k = true)
  (h : ∀ x : LaterS [] w, wpList P l.toArray Q (l.drop k) a x.now) : GG P l S row wild loose [] Q f listed a w := tailF k hf hB hwild h
theorem doneF {fl : List Flt} {l : List Oper} {S : List Nat} {row wild loose : List Nat} {listed : List Bool} {a : Act} {w : World} (hr : Region.ready .any l.toArray listed.toArray = []) (h : ∀ x : LaterS [] w, fin fl (Q .normal) a x.now) : GG P l S row wild loose fl Q 0 listed a w :=
 fun x => ⟨hr, h x⟩
theorem done {l : List Oper} {S : List Nat} {row wild loose : List Nat} {listed : List Bool} {a : Act} {w : World} (hr : Region.ready .any l.toArray listed.toArray = []) (h : ∀ x : LaterS [] w, Q .normal a x.now) : GG P l S row wild loose [] Q 0 listed a w := doneF hr h
theorem wpOp_apart' {j : Nat} {oi oj : Oper} {v : Value} (hj : ops[j]? = some oj) (hap : oi.apart ops oj = true) (hsj : ∀ cs b, oj.op ≠ .select cs b)
  {K : Act → World → Prop} {a : Act} {w : World} (h : wpOp P ops NoQ j (fun a' w' => K (a'.put oi.dst v) w') a w) : wpOp P ops NoQ j K (a.put oi.dst v) w := by
 obtain ⟨h1, h2, h3⟩ := Oper.apart_spec hap
 unfold wpOp at *
 simp only [hj] at *
 rw [wanted_put oj a oi.dst v h1]
 split
 ·rename_i hw
  simp only [hw, if_true] at h
  rcases h with h | ⟨_, _, _, hl⟩
  case inr => exact hl.elim
  refine .inl ?_
  unfold Oper.wp at *
  rw [execOp_put oj hsj a oi.dst v h1]
  generalize (execOp a.eval oj).run P w = r at *
  cases r with
  | ok n w' =>
   cases n <;> simp only [Oper.upon] at h ⊢
   case value u => rw [Act.put_comm a v u h2]; exact h
   case skip => rw [Act.put_comm a v undef h2]; exact h
   case defer d =>
    rw [Act.put_defers, Act.put_comm _ v undef h2]
    exact h
   case enter f args =>
    refine Calls.mono h fun e w'' he => ?_
    cases e with
    | returned u => show K _ _; rw [Act.put_comm a v u h2]; exact he
    | panicked c => exact he.elim
    | outgrown => obtain ⟨_, _, he⟩ := he; exact he.elim
   case row row args => exact Rows.mono h fun u w'' he => by rw [Act.put_comm a v u h2]; exact he
  | halt x w' => cases x <;> simp only [Oper.upon] at h ⊢ <;> exact h
 ·rename_i hw
  simp only [hw] at h
  rw [Act.put_comm a v undef h2]
  exact h
theorem wpOp_frame {j : Nat} {oi oj : Oper} (hj : ops[j]? = some oj) (hap : oi.apart ops oj = true) (hsi : ∀ cs b, oi.op ≠ .select cs b)
  {K : Act → World → Prop} {a : Act} {w : World} (h : wpOp P ops NoQ j K a w) : wpOp P ops NoQ j (fun a' w' => SameFor ops oi a a' ∧ K a' w') a w := by
 obtain ⟨h1, h2, h3⟩ := Oper.apart_spec hap
 have keep : ∀ u, SameFor ops oi a (a.put oj.dst u) := fun u => ⟨execOp_put oi hsi a oj.dst u h3, wanted_put oi a oj.dst u h3⟩
 unfold wpOp at *
 simp only [hj] at *
 split
 ·rename_i hw
  simp only [hw, if_true] at h
  rcases h with h | ⟨_, _, _, hl⟩
  case inr => exact hl.elim
  refine .inl ?_
  unfold Oper.wp at *
  generalize (execOp a.eval oj).run P w = r at *
  cases r with
  | ok n w' =>
   cases n <;> simp only [Oper.upon] at h ⊢
   case value u => exact ⟨keep u, h⟩
   case skip => exact ⟨keep _, h⟩
   case defer d => exact ⟨⟨execOp_put oi hsi { a with defers := d :: a.defers } oj.dst undef h3, wanted_put oi { a with defers := d :: a.defers } oj.dst undef h3⟩, h⟩
   case enter f args =>
    refine Calls.mono h fun e w'' he => ?_
    cases e with
    | returned u => exact ⟨keep u, he⟩
    | panicked c => exact he.elim
    | outgrown => obtain ⟨_, _, he⟩ := he; exact he.elim
   case row row args => exact Rows.mono h fun u w'' he => ⟨keep u, he⟩
  | halt x w' => cases x <;> simp only [Oper.upon] at h ⊢ <;> exact h
 ·rename_i hw
  simp only [hw] at h
  exact ⟨keep _, h⟩
theorem settle {fl : List Flt} {F : Flt} {S : Nat → Option (List Nat)} {wild : Nat → Bool} {i : Nat} {oi : Oper} (hd : oi.dst = F.d) (hsel : ∀ (j : Nat) (o : Oper) cs b, ops[j]? = some o → o.op ≠ .select cs b) {g : Nat} (hB : F.B ≤ g) :
  ∀ (f : Nat) (listed : Array Bool) (a : Act) (w : World),
   (∀ j oj, ops[j]? = some oj → wild j = false → listed.getD j true = false → (∃ L, S j = some L ∧ g ∉ L) ∧ oi.apart ops oj = true) →
   w.heap[g]? = some F.o → wpG P ops S wild (F :: fl) Q f listed a w → wpG P ops S wild fl Q f listed (a.put F.d (F.val g)) w := by
 intro f
 induction f with
 | zero => exact fun listed a w _ hg h => ⟨h.1, h.2 g hB hg⟩
 | succ f ih =>
  intro listed a w hfree hg h
  refine ⟨fun h0 => h.1 h0 g hB hg, fun j hj => ?_⟩
  have h1 := h.2 j hj
  obtain ⟨hjun, oj, hoj, hall⟩ := mem_ready.1 hj
  split
  ·rename_i hw
   rw [if_pos hw] at h1
   exact h1 g hB hg
  ·rename_i hw
   rw [if_neg hw] at h1
   have hwf : wild j = false := by simpa using hw
   obtain ⟨⟨Lj, hLj, hgS⟩, hap⟩ := hfree j oj hoj hwf hjun
   rw [← hd]
   refine wpOp_apart' hoj hap (fun cs b => hsel j oj cs b hoj) ?_
   refine wpOp_mono (fun a' w' h3 => ⟨h3.1, fun y => ?_⟩) h1
   rw [hd]
   refine ih _ a' y.now (fun k ok hk hkw hun => hfree k ok hk hkw ?_) (y.heap ?_ (by simp)) (h3.2 y)
   ·by_cases hjk : j = k
    ·subst hjk; exact hjun
    ·rw [getD_set_ne true hjk] at hun; exact hun
   ·have h4 := h3.1
    rw [hLj] at h4
    rw [Still.block h4 g (Array.getElem?_eq_some_iff.1 hg).1 hgS]; exact hg
theorem float_all {fl : List Flt} {F : Flt} {S : Nat → Option (List Nat)} {wild : Nat → Bool} {i : Nat} {oi : Oper} (hi : ops[i]? = some oi) (hd : oi.dst = F.d) (hsel : ∀ (j : Nat) (o : Oper) cs b, ops[j]? = some o → o.op ≠ .select cs b)
  (hwi : wild i = false) {w0 : World} (hBw : F.B = w0.heap.size) (hS : ∀ j L, S j = some L → ∀ k ∈ L, k < w0.heap.size) :
  ∀ (f : Nat) (listed : Array Bool) (a : Act) (w : World), Closed ops listed → w0.heap.size ≤ w.heap.size →
   (∀ (j : Nat) (l' : Array Bool), Closed ops l' → (∀ k, listed.getD k false = true → l'.getD k false = true) → l'.getD i false = false → j ≠ i → j ∈ Region.ready .any ops l' → wild j = false) →
   (∀ j oj, ops[j]? = some oj → j ≠ i → wild j = false → listed.getD j true = false → (∃ L, S j = some L) ∧ oi.apart ops oj = true) →
   i ∈ Region.ready .any ops listed → (Region.wanted oi (yielded ops a.tmps) = true ∧ ∀ x : World, (execOp a.eval oi).run P x = .ok (.value (F.val x.heap.size)) (x.alloc F.o)) →
   (∀ x : LaterS [] w, wpG P ops S wild (F :: fl) Q f (listed.setIfInBounds i true) a x.now) → ∀ x : LaterS [] w, wpG P ops S wild fl Q (f + 1) listed a x.now := by
 have make : ∀ (f : Nat) (listed : Array Bool) (a : Act) (w : World), i ∈ Region.ready .any ops listed → w0.heap.size ≤ w.heap.size →
   (∀ j oj, ops[j]? = some oj → j ≠ i → wild j = false → listed.getD j true = false → (∃ L, S j = some L) ∧ oi.apart ops oj = true) →
   (Region.wanted oi (yielded ops a.tmps) = true ∧ ∀ x : World, (execOp a.eval oi).run P x = .ok (.value (F.val x.heap.size)) (x.alloc F.o)) →
   (∀ x : LaterS [] w, wpG P ops S wild (F :: fl) Q f (listed.setIfInBounds i true) a x.now) →
   wpOp P ops NoQ i (fun a' w' => StO (S i) w w' ∧ ∀ y : LaterS [] w', wpG P ops S wild fl Q f (listed.setIfInBounds i true) a' y.now) a w := by
  intro f listed a w hr hsz hfree hv H
  unfold wpOp
  simp only [hi, hv.1, if_true]
  refine .inl ?_
  unfold Oper.wp
  rw [hv.2 w]
  simp only [Oper.upon]
  have hbel : Below w.heap.size w (w.alloc F.o) := (Below.refl _ _).alloc (Nat.le_refl _) _
  refine ⟨StO.of (Still.of_below hbel), fun y => ?_⟩
  have hg : y.now.heap[w.heap.size]? = some F.o := y.heap (heap_alloc_new w F.o) (by simp)
  have := settle (oi := oi) (i := i) hd hsel (g := w.heap.size) (by rw [hBw]; exact hsz) f (listed.setIfInBounds i true) a y.now (fun j oj hj hwj hun => ?_) hg (H ⟨y.now, (Still.of_below hbel).trans y.ok⟩)
  ·rw [hd]; exact this
  ·have hji : j ≠ i := fun e => by
    subst e
    have hlt : j < listed.size := by
     rcases Nat.lt_or_ge j listed.size with h | h
     ·exact h
     ·have hu := (mem_ready.1 hr).1
      rw [Array.getD_eq_getD_getElem?, Array.getElem?_eq_none h] at hu
      simp at hu
    rw [Array.getD_eq_getD_getElem?, Array.getElem?_setIfInBounds_self_of_lt hlt] at hun
    simp at hun
   have hq := hfree j oj hj hji hwj (by rw [getD_set_ne true (Ne.symm hji)] at hun; exact hun)
   obtain ⟨⟨L, hL⟩, hap⟩ := hq
   exact ⟨⟨L, hL, fun hm => by have := hS j L hL _ hm; omega⟩, hap⟩
 intro f
 induction f with
 | zero =>
  intro listed a w _ hsz _ hfree hr hv H x
  refine ⟨fun h => (by rw [h] at hr; cases hr), fun j hj => ?_⟩
  by_cases hji : j = i
  ·subst hji
   rw [if_neg (by rw [hwi]; exact Bool.false_ne_true)]
   exact make 0 listed a x.now hr (Nat.le_trans hsz x.ok.size) hfree hv (fun y => H (x.up y))
  ·have := ready_mono hj hji
   rw [(H x).1] at this
   cases this
 | succ f ih =>
  intro listed a w hcl hsz hcond hfree hr hv H x
  refine ⟨fun h => (by rw [h] at hr; cases hr), fun j hj => ?_⟩
  by_cases hji : j = i
  ·subst hji
   rw [if_neg (by rw [hwi]; exact Bool.false_ne_true)]
   exact make (f + 1) listed a x.now hr (Nat.le_trans hsz x.ok.size) hfree hv (fun y => H (x.up y))
  ·obtain ⟨hjun, oj, hoj, hall⟩ := mem_ready.1 hj
   have hun := (mem_ready.1 hr).1
   have hwj := hcond j listed hcl (fun _ h => h) (getD_both hun) hji hj
   have hwj' : ¬ wild j = true := by rw [hwj]; exact Bool.false_ne_true
   rw [if_neg hwj']
   have h1 := (H x).2 j (ready_mono hj hji)
   rw [if_neg hwj'] at h1
   have hap := (hfree j oj hoj hji hwj hjun).2
   have keep := wpOp_frame hoj hap (fun cs b => hsel i oi cs b hi) h1
   obtain ⟨⟨Lj, hLj⟩, _⟩ := hfree j oj hoj hji hwj hjun
   refine wpOp_mono (fun a' w' h3 => ⟨h3.2.1, fun y => ?_⟩) keep
   have hszz : x.now.heap.size ≤ w'.heap.size := by
    have h4 := h3.2.1
    rw [hLj] at h4
    exact Still.size h4
   refine ih (listed.setIfInBounds j true) a' w' (hcl.set hj) (Nat.le_trans (Nat.le_trans hsz x.ok.size) hszz) (fun k l' h4 h5 => hcond k l' h4 fun m hm => h5 m (getD_set_true hm)) (fun k ok hk hki hwk hun2 => ?_) (ready_mono hr (Ne.symm hji)) ?_ (fun z => ?_) y
   ·refine hfree k ok hk hki hwk ?_
    by_cases hjk : j = k
    ·subst hjk; exact hjun
    ·rw [getD_set_ne true hjk] at hun2; exact hun2
   ·rw [h3.1.2, h3.1.1]; exact hv
   ·rw [Array.setIfInBounds_comm _ _ hji]
    exact h3.2.2 z
def okFloat (l : List Oper) (wild loose : List Nat) (listed : List Bool) (i : Nat) : Bool :=
 Region.noSelect l.toArray && (Region.ready .any l.toArray listed.toArray).contains i && !wild.contains i && closedB l listed && wild.all (fun j => (marks i l).getD j false || listed.getD j false) && loose.all (fun j => listed.getD j false) &&
  (List.range l.length).all fun j => j == i || wild.contains j || listed.getD j true || match l[i]?, l[j]? with
   | some oi, some oj => oi.apart l.toArray oj
   | _, _ => true
theorem float {fl : List Flt} {l : List Oper} {S : List Nat} {row wild loose : List Nat} {listed : List Bool} (i : Nat) {oi : Oper} {a : Act} {w : World} {f : Nat} (val : Nat → Value) (o : Obj) (hi : l[i]? = some oi) (hok : okFloat l wild loose listed i = true) (hS : ∀ k ∈ S, k < w.heap.size)
  (hw : Region.wanted oi (yielded l.toArray a.tmps) = true) (h : ∀ x : World, (execOp a.eval oi).run P x = .ok (.value (val x.heap.size)) (x.alloc o))
  (next : GG P l S row wild loose (⟨w.heap.size, oi.dst, val, o⟩ :: fl) Q f (listed.set i true) a w) : GG P l S row wild loose fl Q (f + 1) listed a w := by
 simp only [okFloat, Bool.and_eq_true, Bool.not_eq_true'] at hok
 obtain ⟨⟨⟨⟨⟨⟨hs, hr⟩, hwi⟩, hcl⟩, hww⟩, hloo⟩, hap⟩ := hok
 have hi' : l.toArray[i]? = some oi := by simpa using hi
 refine float_all (F := ⟨w.heap.size, oi.dst, val, o⟩) hi' rfl (Region.noSelect_spec hs) hwi (w0 := w) rfl (fun j L hL k hk => ?_) f listed.toArray a w (closedB_spec hcl) (Nat.le_refl _) (fun j l' h1 h2 h3 h4 h5 => ?_) (fun j oj hj hji hwj hun => ?_) (by simpa using hr) ⟨hw, h⟩ ?_
 ·split at hL
  ·cases hL
  ·cases hL
   split at hk
   ·exact hS k hk
   ·cases hk
 ·have hun : listed.getD j false = false := by
   cases hq : listed.getD j false with
   | false => rfl
   | true =>
    have hq' := h2 j (by simpa using hq)
    have := getD_both (mem_ready.1 h5).1
    rw [hq'] at this; cases this
  have hnm : ¬ (marks i l).getD j false = true := fun hmk => by
   have := marks_ready h1 hmk h5
   rw [h3] at this; cases this
  cases hq : wild.contains j with
  | false => rfl
  | true =>
   have := List.all_eq_true.1 hww j (by simpa using hq)
   rw [hun] at this
   simp only [Bool.or_false] at this
   exact (hnm this).elim
 ·have hj' : l[j]? = some oj := by simpa using hj
  have h1 := List.all_eq_true.1 hap j (List.mem_range.2 (List.getElem?_eq_some_iff.1 hj').1)
  have hun' : listed.getD j true = false := by simpa using hun
  have hwj' : wild.contains j = false := hwj
  simp only [hi, hj', hun', hwj', Bool.or_false, Bool.or_eq_true, beq_iff_eq] at h1
  refine ⟨⟨_, if_neg fun hc => ?_⟩, h1.resolve_left hji⟩
  have h2 := List.all_eq_true.1 hloo j (by simpa using hc)
  have h3 := getD_both hun
  have h4 : listed.getD j false = false := by simpa using h3
  rw [h4] at h2; cases h2
 ·intro x
  have h5 := next x
  rw [List.setIfInBounds_toArray]
  exact h5
def okPure (l : List Oper) (wild : List Nat) (listed : List Bool) (i : Nat) : Bool :=
 Region.noSelect l.toArray && (Region.ready .any l.toArray listed.toArray).contains i && Region.free .any l.toArray listed.toArray i && !wild.contains i && closedB l listed && wild.all (fun j => (marks i l).getD j false || listed.getD j false)
theorem hoistP {fl : List Flt} {l : List Oper} {S : List Nat} {row wild loose : List Nat} {listed : List Bool} (i : Nat) {oi : Oper} {v : Value} {a a1 : Act} {w : World} {f : Nat} (hi : l[i]? = some oi) (hok : okPure l wild listed i = true)
  (hw : Region.wanted oi (yielded l.toArray a.tmps) = true) (h : ∀ x : World, (execOp a.eval oi).run P x = .ok (.value v) x) (ha : a.put oi.dst v = a1)
  (next : GG P l S row wild loose fl Q f (listed.set i true) a1 w) : GG P l S row wild loose fl Q (f + 1) listed a w := by
 simp only [okPure, Bool.and_eq_true, Bool.not_eq_true'] at hok
 obtain ⟨⟨⟨⟨⟨hs, hr⟩, hf⟩, hwi⟩, hcl⟩, hww⟩ := hok
 have hi' : l.toArray[i]? = some oi := by simpa using hi
 have hm : ∀ w', Mild P l.toArray [] oi v a w' := fun w' => .inl ⟨hw, fun x => by rw [h]; exact ⟨rfl, rfl⟩⟩
 subst ha
 refine hoist_all (v := v) (Si := []) true hi' (Region.noSelect_spec hs) hwi f listed.toArray a w (closedB_spec hcl) (fun j l' h1 h2 h3 h4 h5 => ?_) (Region.free_spec hi' hf) (by simpa using hr) (hm w) (fun _ => hm) ?_
 ·have hun : listed.getD j false = false := by
   cases hq : listed.getD j false with
   | false => rfl
   | true =>
    have hq' := h2 j (by simpa using hq)
    have := getD_both (mem_ready.1 h5).1
    rw [hq'] at this; cases this
  have hnm : ¬ (marks i l).getD j false = true := fun hmk => by
   have := marks_ready h1 hmk h5
   rw [h3] at this; cases this
  refine ⟨?_, .inl rfl⟩
  cases hq : wild.contains j with
  | false => rfl
  | true =>
   have := List.all_eq_true.1 hww j (by simpa using hq)
   rw [hun] at this
   simp only [Bool.or_false] at this
   exact (hnm this).elim
 ·intro x
  have h5 := next x
  rw [List.setIfInBounds_toArray]
  exact h5
theorem effectL {fl : List Flt} {l : List Oper} {S : List Nat} {row wild loose : List Nat} {listed : List Bool} (i : Nat) {oi : Oper} {a : Act} {w : World} {f : Nat} (hi : l[i]? = some oi) (hr : Region.ready .any l.toArray listed.toArray = [i]) (hwi : wild.contains i = false) (hlo : loose.contains i = true)
  (hw : Region.wanted oi (yielded l.toArray a.tmps) = true)
  (h : ∀ (x : LaterS [] w) (K : Act → World → Prop), (∀ a' w', GG P l S row wild loose fl Q f (listed.set i true) a' w' → K a' w') → oi.wp P a x.now K NoQ) : GG P l S row wild loose fl Q (f + 1) listed a w := by
 intro x
 refine ⟨fun h0 => absurd (hr.symm.trans h0) (by simp), fun j hj => ?_⟩
 rw [hr] at hj
 have hji : j = i := by simpa using hj
 subst hji
 rw [if_neg (by show ¬ wild.contains j = true; rw [hwi]; exact Bool.false_ne_true)]
 unfold wpOp
 have hi' : l.toArray[j]? = some oi := by simpa using hi
 simp only [hi', hw, if_true]
 refine .inl (h x _ fun a' w' hg => ⟨?_, fun y => ?_⟩)
 ·show StO (if loose.contains j then none else _) _ _
  rw [hlo]; trivial
 have h5 := hg y
 rw [List.setIfInBounds_toArray]
 exact h5
theorem effect2 {fl : List Flt} {l : List Oper} {S : List Nat} {row wild loose : List Nat} {listed : List Bool} (i k : Nat) {oi ok : Oper} {a : Act} {w : World} {f : Nat} (hi : l[i]? = some oi) (hk : l[k]? = some ok) (hr : Region.ready .any l.toArray listed.toArray = [i, k]) (hwi : wild.contains i = false) (hwk : wild.contains k = false)
  (hw : Region.wanted oi (yielded l.toArray a.tmps) = true) (hw' : Region.wanted ok (yielded l.toArray a.tmps) = true)
  (h : ∀ (x : LaterS [] w) (K : Act → World → Prop), (∀ a' w', Still (if row.contains i then S else []) x.now w' → GG P l S row wild loose fl Q f (listed.set i true) a' w' → K a' w') → oi.wp P a x.now K NoQ)
  (h' : ∀ (x : LaterS [] w) (K : Act → World → Prop), (∀ a' w', Still (if row.contains k then S else []) x.now w' → GG P l S row wild loose fl Q f (listed.set k true) a' w' → K a' w') → ok.wp P a x.now K NoQ) : GG P l S row wild loose fl Q (f + 1) listed a w := by
 intro x
 refine ⟨fun h0 => absurd (hr.symm.trans h0) (by simp), fun j hj => ?_⟩
 rw [hr] at hj
 have hji : j = i ∨ j = k := by simpa using hj
 have stO : ∀ {w' : World}, Still (if row.contains j then S else []) x.now w' → StO (if loose.contains j then none else some (if row.contains j then S else [])) x.now w' := fun hb => by
  cases hl : loose.contains j with
  | true => trivial
  | false => exact hb
 rcases hji with rfl | rfl
 ·rw [if_neg (by show ¬ wild.contains j = true; rw [hwi]; exact Bool.false_ne_true)]
  unfold wpOp
  have hi' : l.toArray[j]? = some oi := by simpa using hi
  simp only [hi', hw, if_true]
  refine .inl (h x _ fun a' w' hb hg => ⟨stO hb, fun y => ?_⟩)
  have h5 := hg y
  rw [List.setIfInBounds_toArray]
  exact h5
 ·rw [if_neg (by show ¬ wild.contains j = true; rw [hwk]; exact Bool.false_ne_true)]
  unfold wpOp
  have hi' : l.toArray[j]? = some ok := by simpa using hk
  simp only [hi', hw', if_true]
  refine .inl (h' x _ fun a' w' hb hg => ⟨stO hb, fun y => ?_⟩)
  have h5 := hg y
  rw [List.setIfInBounds_toArray]
  exact h5
theorem wp_region_gl {id : Nat} {a : Act} {w : World} {l : List Oper} (S : List Nat) (row wild loose : List Nat) (hm : P.follows .mixedOrders = true)
  (h : GG P l S row wild loose [] Q l.length (List.replicate l.length false) a w) : (Code.region id l.toArray true).wp P Q a w := by
 refine wp_region_any hm ?_
 have h1 := wpAny_of_wpG _ _ _ _ (h ⟨w.drew, Still.of_below (Below.refl _ _).drew⟩)
 have e : (List.replicate l.length false).toArray = Array.replicate l.toArray.size false := by simp
 rw [e] at h1
 exact h1
theorem wp_region_gg {id : Nat} {a : Act} {w : World} {l : List Oper} (S : List Nat) (row wild : List Nat) (hm : P.follows .mixedOrders = true)
  (h : GG P l S row wild [] [] Q l.length (List.replicate l.length false) a w) : (Code.region id l.toArray true).wp P Q a w := by
 refine wp_region_any hm ?_
 have h1 := wpAny_of_wpG _ _ _ _ (h ⟨w.drew, Still.of_below (Below.refl _ _).drew⟩)
 have e : (List.replicate l.length false).toArray = Array.replicate l.toArray.size false := by simp
 rw [e] at h1
 exact h1
end
end Go.Proofs.YtafhnlnhflehhaaGreatDoor
