/- Control packets in memory: kinds of elements, a packet's thirteen cells. No condition. -/
import Derived.Test.YtcempndfbckcaaaRcD
import Derived.Test.YtcempndfbckcaaaPuE
import Derived.Test.YtcempndfbckcaaaBst
namespace Go.Proofs.Ytcempndfbckcaaa
open Go.RowKit

/-- A report: its source, fraction, loss, highest number, jitter, last, delay. -/
structure Rep where
  s : Nat
  f : Nat
  lost : Int
  h : Nat
  j : Nat
  l : Nat
  d : Nat
def repV (r : Rep) : List Value := [.int .u32 (r.s : Nat), .int .u8 (r.f : Nat), .int .i32 r.lost, .int .u32 (r.h : Nat), .int .u32 (r.j : Nat), .int .u32 (r.l : Nat), .int .u32 (r.d : Nat)]
def namV (p : Nat × List Nat) : List Value := [.int .u32 (p.1 : Nat), .string (bstr p.2)]
def srcV (x : Nat) : List Value := [.int .u32 (x : Nat)]
def lossV (p : Nat × Nat) : List Value := [.int .u16 (p.1 : Nat), .int .u16 (p.2 : Nat)]
def firV (p : Nat × Nat) : List Value := [.int .u32 (p.1 : Nat), .int .u8 (p.2 : Nat)]
def u16V (x : Nat) : List Value := [.int .u16 (x : Nat)]
def ER : Elt Rep := pureE 7 repV (by decide) (fun _ => rfl) (fun r u hu => by simp only [repV, List.mem_cons, List.not_mem_nil, or_false] at hu; rcases hu with rfl | rfl | rfl | rfl | rfl | rfl | rfl <;> rfl)
def EM : Elt (Nat × List Nat) := pureE 2 namV (by decide) (fun _ => rfl) (fun r u hu => by simp only [namV, List.mem_cons, List.not_mem_nil, or_false] at hu; rcases hu with rfl | rfl <;> rfl)
def ES : Elt Nat := pureE 1 srcV (by decide) (fun _ => rfl) (fun r u hu => by simp only [srcV, List.mem_cons, List.not_mem_nil, or_false] at hu; rw [hu]; rfl)
def EO : Elt (Nat × Nat) := pureE 2 lossV (by decide) (fun _ => rfl) (fun r u hu => by simp only [lossV, List.mem_cons, List.not_mem_nil, or_false] at hu; rcases hu with rfl | rfl <;> rfl)
def EF : Elt (Nat × Nat) := pureE 2 firV (by decide) (fun _ => rfl) (fun r u hu => by simp only [firV, List.mem_cons, List.not_mem_nil, or_false] at hu; rcases hu with rfl | rfl <;> rfl)
def U1N : Elt Nat := pureE 1 u16V (by decide) (fun _ => rfl) (fun r u hu => by simp only [u16V, List.mem_cons, List.not_mem_nil, or_false] at hu; rw [hu]; rfl)
theorem slER : SlTy Try.prog 107 187 7 28 := slRP
theorem slEM : SlTy Try.prog 108 148 2 24 := SlTy.mk' Try.underlying108 (by kernel_rfl) (by decide)
theorem slES : SlTy Try.prog 33 73 1 4 := SlTy.mk' Try.underlying33 (by kernel_rfl) (by decide)
theorem slEO : SlTy Try.prog 24 30 2 4 := SlTy.mk' Try.underlying24 (by kernel_rfl) (by decide)
theorem slEF : SlTy Try.prog 109 194 2 8 := SlTy.mk' Try.underlying109 (by kernel_rfl) (by decide)
theorem slU1N : SlTy Try.prog 25 28 1 2 := SlTy.mk' Try.underlying25 (by kernel_rfl) (by decide)

def repOf (d : List Nat) : Rep :=
  ⟨numB (d.take 4), numB ((d.drop 4).take 1), sgn24 (numB (((d.drop 4).drop 1).take 3)), numB ((((d.drop 4).drop 1).drop 3).take 4), numB (((((d.drop 4).drop 1).drop 3).drop 4).take 4), numB ((((((d.drop 4).drop 1).drop 3).drop 4).drop 4).take 4), numB (((((((d.drop 4).drop 1).drop 3).drop 4).drop 4).drop 4).take 4)⟩
theorem EQ.maps {α β : Type} {E : Elt α} {F : Elt β} {T : TypeId} {w : World} {base : Nat} {v : Value} {n : Nat} {l : List α} (h : EQ E T w base v n l) (f : α → β) (hs : E.size = F.size) (hR : ∀ a c, E.R w base a c → F.R w base (f a) c) : EQ F T w base v n (l.map f) := by
  obtain ⟨h1, xs, h2, h3⟩ := h
  refine ⟨by rw [List.length_map, h1], xs, by rw [← hs]; exact h2, ?_⟩
  have key : ∀ (l : List α) (xs : List Value), EL E w base l xs → EL F w base (l.map f) xs := by
    intro l
    induction l with
    | nil => exact fun xs h => h
    | cons a l ih => exact fun xs ⟨c, xs', e, k1, k2⟩ => ⟨c, xs', e, hR a c k1, ih _ k2⟩
  exact key l xs h3
theorem EQ.reps {w : World} {base : Nat} {v : Value} {n : Nat} {l : List (List Nat)} (h : EQ RP 187 w base v n l) : EQ ER 187 w base v n (l.map repOf) := h.maps repOf rfl fun _ _ e => e

/-- A control packet, as plain data. -/
structure Ctl where
  k : Int
  s : Nat
  m : Nat
  t : Nat
  st : Nat
  pk : Nat
  oc : Nat
  reps : List Rep
  nams : List (Nat × List Nat)
  srcs : List Nat
  loss : List (Nat × Nat)
  firs : List (Nat × Nat)
  rt : Nat
def ctlC (c : Ctl) (vr vn vs vl vf : Value) : List Value := [.int .i64 c.k, .int .u32 (c.s : Nat), .int .u32 (c.m : Nat), .int .u64 (c.t : Nat), .int .u32 (c.st : Nat), .int .u32 (c.pk : Nat), .int .u32 (c.oc : Nat), vr, vn, vs, vl, vf, .int .u64 (c.rt : Nat)]
theorem EQ.slc {α : Type} {E : Elt α} {T : TypeId} {w : World} {base : Nat} {v : Value} {n : Nat} {l : List α} (h : EQ E T w base v n l) : v.oneCell' = true := by
  obtain ⟨sa, cap, rfl, _, _⟩ := h.len
  rfl
/-- No row of a packet's lists. -/
def NoL (w : World) (k : Nat) : Prop := w.heap.size ≤ k ∨ ∃ cs t f, w.heap[k]? = some (.cells cs t f) ∧ t ≠ 187 ∧ t ≠ 148 ∧ t ≠ 73 ∧ t ≠ 30 ∧ t ≠ 194
theorem EQ.apart {α : Type} {E : Elt α} {T : TypeId} {w : World} {base : Nat} {v : Value} {n : Nat} {l : List α} (h : EQ E T w base v n l) {S : List Nat} (hS : ∀ k ∈ S, w.heap.size ≤ k ∨ ∃ cs t f, w.heap[k]? = some (.cells cs t f) ∧ t ≠ T) : ∀ g, v.ownBlock = some g → g ∉ S := fun g hg hm => by
  rcases hS g hm with hk | ⟨cs, t, f, h1, h2⟩
  · have := h.lt' g hg; omega
  · exact h.ne h1 h2 g hg rfl
structure CtlV (w : World) (base : Nat) (c : Ctl) (vr vn vs vl vf : Value) : Prop where
  r : EQ ER 187 w base vr c.reps.length c.reps
  n : EQ EM 148 w base vn c.nams.length c.nams
  s : EQ ES 73 w base vs c.srcs.length c.srcs
  l : EQ EO 30 w base vl c.loss.length c.loss
  f : EQ EF 194 w base vf c.firs.length c.firs
theorem CtlV.bw {w w' : World} {base : Nat} {c : Ctl} {vr vn vs vl vf : Value} (h : CtlV w base c vr vn vs vl vf) (hb : BW w w') : CtlV w' base c vr vn vs vl vf := ⟨h.r.bw hb, h.n.bw hb, h.s.bw hb, h.l.bw hb, h.f.bw hb⟩
theorem CtlV.up {w : World} {base base' : Nat} {c : Ctl} {vr vn vs vl vf : Value} (h : CtlV w base c vr vn vs vl vf) (hb : base' ≤ base) : CtlV w base' c vr vn vs vl vf := ⟨h.r.up hb, h.n.up hb, h.s.up hb, h.l.up hb, h.f.up hb⟩
theorem CtlV.still {w w' : World} {base : Nat} {c : Ctl} {vr vn vs vl vf : Value} (h : CtlV w base c vr vn vs vl vf) {S : List Nat} (hs : Still S w w') (hS : ∀ k ∈ S, NoL w k) : CtlV w' base c vr vn vs vl vf := by
  refine ⟨h.r.still hs (fun _ _ => trivial) (h.r.apart fun k hk => ?_), h.n.still hs (fun _ _ => trivial) (h.n.apart fun k hk => ?_), h.s.still hs (fun _ _ => trivial) (h.s.apart fun k hk => ?_), h.l.still hs (fun _ _ => trivial) (h.l.apart fun k hk => ?_), h.f.still hs (fun _ _ => trivial) (h.f.apart fun k hk => ?_)⟩ <;>
  · rcases hS k hk with hk | ⟨cs, t, f, h1, h2, h3, h4, h5, h6⟩
    · exact .inl hk
    · exact .inr ⟨cs, t, f, h1, by assumption⟩
theorem CtlV.old {w w' : World} {base : Nat} {c : Ctl} {vr vn vs vl vf : Value} (h : CtlV w base c vr vn vs vl vf) {S : List Nat} (hs : Still S w w') (hS : ∀ k ∈ S, k < base) : CtlV w' base c vr vn vs vl vf :=
  ⟨h.r.old hs hS, h.n.old hs hS, h.s.old hs hS, h.l.old hs hS, h.f.old hs hS⟩
/-- Packets as elements. -/
def EC : Elt Ctl where
  size := 13
  R := fun w b c cs => ∃ vr vn vs vl vf, cs = ctlC c vr vn vs vl vf ∧ CtlV w b c vr vn vs vl vf
  Ok := NoL
  pos := by decide
  len := fun ⟨_, _, _, _, _, e, _⟩ => by rw [e]; rfl
  one := fun ⟨_, _, _, _, _, e, h⟩ u hu => by
    rw [e] at hu
    simp only [ctlC, List.mem_cons, List.not_mem_nil, or_false] at hu
    rcases hu with rfl | rfl | rfl | rfl | rfl | rfl | rfl | rfl | rfl | rfl | rfl | rfl | rfl <;> first | rfl | exact h.r.slc | exact h.n.slc | exact h.s.slc | exact h.l.slc | exact h.f.slc
  bw := fun ⟨a, b, c, d, e, h1, h2⟩ hb => ⟨a, b, c, d, e, h1, h2.bw hb⟩
  up := fun ⟨a, b, c, d, e, h1, h2⟩ hb => ⟨a, b, c, d, e, h1, h2.up hb⟩
  still := fun ⟨a, b, c, d, e, h1, h2⟩ hs hS => ⟨a, b, c, d, e, h1, h2.still hs hS⟩
  old := fun ⟨a, b, c, d, e, h1, h2⟩ hs hS => ⟨a, b, c, d, e, h1, h2.old hs hS⟩
theorem slEC : SlTy Try.prog 95 111 13 168 := SlTy.mk' Try.underlying95 (by kernel_rfl) (by decide)
end Go.Proofs.Ytcempndfbckcaaa
