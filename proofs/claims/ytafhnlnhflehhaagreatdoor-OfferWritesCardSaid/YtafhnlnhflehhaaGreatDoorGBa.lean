/- A general reading of plain data in memory: types as a small tree (Ty), 'Rd ty w cs': the cells cs hold plain data of that type in world w. 'Rd_of_trod': the claim form's own reading gives it. No condition. Slices of bytes that are read: 'SlB w sa ln cp l': the slice's elements are the numbers l, each from 0 to 255. Small laws on worlds. No condition. Arrays of numbers, by value and in memory: 'ivA k l' is the cells of an array of kind k that holds l. No condition. Two arrays of numbers compared. Whole arrays (and structs) loaded, in a region that draws. -/
import Derived.Test.YtafhnlnhflehhaaGreatDoorRows
import Derived.WalkKit
import Derived.ProofKit
import Derived.OpenShut
import Derived.ShutString
import Derived.ChangeOld
import Derived.Deep.Slices
import Derived.WalkSpells
import Derived.WalkLawsBesides
import Derived.Lib.Hide
import Derived.IntWalk
import Derived.Laws.Rows
import Derived.Laws.Tables
import Derived.Laws.NewBlocks
import Derived.Deep.Draws
import Derived.Laws.StructEq
import Derived.Test.YtafhnlnhflehhaaGreatDoorRg
namespace Go.Proofs.YtafhnlnhflehhaaGreatDoor
open Go.ChangeShapes Go.WideShapes Go.RowKit
abbrev Ty := Code
def kd : Nat → IntKind
 | 0 => .i8 | 1 => .i16 | 2 => .i32 | 3 => .i64 | 4 => .u8 | 5 => .u16 | 6 => .u32 | _ => .u64
def tsize : Ty → Nat
 | .label _ => 1
 | .ret => 1
 | .goto _ => 1
 | .loop _ => 1
 | .scope f => tsize f
 | .seq a r => tsize a + tsize r
 | .skip => 0
 | .block n t => n * tsize t
 | _ => 0
def tnil : Ty → Bool
 | .skip => true
 | _ => false
def tlist : Ty → Bool
 | .skip => true
 | .seq _ _ => true
 | _ => false
def tfit (P : Program) : Ty → TypeId → List Field → Nat → Bool
 | .label k, t, _, _ => (match P.underlying t with | some (.int k') => kd k == k' | _ => false) && P.cellsOf t == 1
 | .ret, t, _, _ => (match P.underlying t with | some .bool => true | _ => false) && P.cellsOf t == 1
 | .goto _, t, _, _ => (match P.underlying t with | some .string => true | _ => false) && P.cellsOf t == 1
 | .loop e, t, _, _ => (match P.underlying t with | some (.slice e') => !tnil e && tfit P e e' [] 0 | _ => false) && P.cellsOf t == 1
 | .scope f, t, _, _ => (match P.underlying t with | some (.struct fs) => tlist f && tfit P f t fs.toList 0 | _ => false) && P.cellsOf t == tsize f
 | .seq a r, t, fs, o => (match fs with | f :: fs' => f.offset == o && !tnil a && tfit P a f.type [] 0 && tlist r && tfit P r t fs' (o + tsize a) | [] => false)
 | .skip, _, fs, _ => fs.isEmpty
 | .block n e, t, _, _ => (match P.underlying t with | some (.array n' e') => n == n' && !tnil e && tfit P e e' [] 0 | _ => false) && P.cellsOf t == n * tsize e
 | _, _, _, _ => false
def Rd (w : World) : Ty → List Value → Prop
 | .region _ _ _, _ => False
 | .cond _ _ _, _ => False
 | .rangeFunc _ _ _ _, _ => False
 | .exit _, _ => False
 | .refuse _, _ => False
 | .label k, cs => ∃ n, cs = [.int (kd k) n] ∧ (Lit.int (kd k) n).wf = true
 | .ret, cs => ∃ b, cs = [.bool b]
 | .goto _, cs => ∃ s : ByteArray, cs = [.string s] ∧ s.size ≤ maxLen
 | .loop e, cs => cs = [.slice none 0 0] ∨ ∃ (a : Addr) (len cap : Nat), cs = [.slice (some a) len cap] ∧ len ≤ cap ∧ cap ≤ maxLen ∧
   ∀ i, i < cap → ∃ cs', cs'.length = tsize e ∧ (∀ j, j < tsize e → w.cell? (a.add (i * tsize e + j)) = cs'[j]?) ∧ Rd w e cs'
 | .scope f, cs => Rd w f cs
 | .seq a r, cs => ∃ c1 c2, cs = c1 ++ c2 ∧ Rd w a c1 ∧ Rd w r c2
 | .skip, cs => cs = []
 | .block n e, cs => cs.length = n * tsize e ∧ ∀ i, i < n → Rd w e ((cs.drop (i * tsize e)).take (tsize e))
theorem Rd.length {w : World} : ∀ {ty : Ty} {cs : List Value}, Rd w ty cs → cs.length = tsize ty
 | .region _ _ _, _, h => h.elim
 | .cond _ _ _, _, h => h.elim
 | .rangeFunc _ _ _ _, _, h => h.elim
 | .exit _, _, h => h.elim
 | .refuse _, _, h => h.elim
 | .label _, _, h => by obtain ⟨n, rfl, _⟩ := h; rfl
 | .ret, _, h => by obtain ⟨n, rfl⟩ := h; rfl
 | .goto _, _, h => by obtain ⟨n, rfl, _⟩ := h; rfl
 | .loop _, _, h => by rcases h with rfl | ⟨_, _, _, rfl, _⟩ <;> rfl
 | .scope f, _, h => Rd.length (ty := f) h
 | .seq a r, _, h => by
  obtain ⟨c1, c2, rfl, h1, h2⟩ := h
  rw [List.length_append, Rd.length h1, Rd.length h2]; rfl
 | .skip, _, h => by have h : _ = _ := h; subst h; rfl
 | .block n e, _, h => h.1
theorem fit_cells {P : Program} {ty : Ty} {t : TypeId} (hn : tnil ty = false) (h : tfit P ty t [] 0 = true) : P.cellsOf t = tsize ty := by
 cases ty <;> simp [tfit, tnil] at h hn <;> exact h.2
section
variable {H : Type} {enc : TypeId × Value → H} {P : Program} {w : World} {base : Nat} {held : Bool}
theorem Rd_all : ∀ (ty : Ty),
  (∀ (t : TypeId) (fuel : Nat) (cs : List Value) (x : DataW H × List MemPlace), tnil ty = false → tfit P ty t [] 0 = true → DataW.trod enc P w base (fun _ => true) held fuel t cs = some x → Rd w ty cs) ∧
  (∀ (t : TypeId) (fs : List Field) (o m : Nat) (cs : List Value), tfit P ty t fs o = true → ((∃ a r, ty = .seq a r) ∨ ty = .skip) → cs.length = o + tsize ty →
   (∀ (i : Nat) (f : Field), fs[i]? = some f → ∃ y, DataW.trod enc P w base (fun _ => true) held m f.type ((cs.drop f.offset).take (P.cellsOf f.type)) = some y) → Rd w ty (cs.drop o)) := by
 intro ty
 induction ty with
 | region _ _ _ => exact ⟨fun t fuel cs x _ hf => by simp [tfit] at hf, fun t fs o m cs hf => by simp [tfit] at hf⟩
 | cond _ _ _ => exact ⟨fun t fuel cs x _ hf => by simp [tfit] at hf, fun t fs o m cs hf => by simp [tfit] at hf⟩
 | rangeFunc _ _ _ _ => exact ⟨fun t fuel cs x _ hf => by simp [tfit] at hf, fun t fs o m cs hf => by simp [tfit] at hf⟩
 | exit _ => exact ⟨fun t fuel cs x _ hf => by simp [tfit] at hf, fun t fs o m cs hf => by simp [tfit] at hf⟩
 | refuse _ => exact ⟨fun t fuel cs x _ hf => by simp [tfit] at hf, fun t fs o m cs hf => by simp [tfit] at hf⟩
 | label k =>
  refine ⟨fun t fuel cs x _ hf h => ?_, fun t fs o m cs _ h => by simp at h⟩
  simp only [tfit, Bool.and_eq_true, beq_iff_eq] at hf
  obtain ⟨hf, _⟩ := hf
  split at hf <;> simp at hf
  rename_i k' hu
  subst hf
  obtain ⟨n, rfl, _, hw⟩ := DataW.trod_int hu h
  exact ⟨n, rfl, hw⟩
 | ret =>
  refine ⟨fun t fuel cs x _ hf h => ?_, fun t fs o m cs _ h => by simp at h⟩
  simp only [tfit, Bool.and_eq_true, beq_iff_eq] at hf
  obtain ⟨hf, _⟩ := hf
  split at hf <;> simp at hf
  rename_i hu
  obtain ⟨n, rfl, _⟩ := DataW.trod_bool hu h
  exact ⟨n, rfl⟩
 | goto l =>
  refine ⟨fun t fuel cs x _ hf h => ?_, fun t fs o m cs _ h => by simp at h⟩
  simp only [tfit, Bool.and_eq_true, beq_iff_eq] at hf
  obtain ⟨hf, _⟩ := hf
  split at hf <;> simp at hf
  rename_i hu
  obtain ⟨n, rfl, _, hs⟩ := DataW.trod_string hu h
  exact ⟨n, rfl, hs⟩
 | loop e ih =>
  refine ⟨fun t fuel cs x _ hf h => ?_, fun t fs o m cs _ h => by simp at h⟩
  simp only [tfit, Bool.and_eq_true, beq_iff_eq] at hf
  obtain ⟨hf, _⟩ := hf
  split at hf <;> try (simp at hf; done)
  rename_i e' hu
  simp only [Bool.and_eq_true, Bool.not_eq_true'] at hf
  obtain ⟨hnil, hf⟩ := hf
  rcases Go.Deep.open_slice hu h with ⟨rfl, _⟩ | ⟨a, len, cap, m, n, D, Pl, rfl, _, hl, hm, hmm, _, hi⟩
  ·exact .inl rfl
  ·refine .inr ⟨a, len, cap, rfl, hl, hm, fun i hic => ?_⟩
   simp at hmm
   subst hmm
   obtain ⟨cs', hc, ht⟩ := hi i hic
   rw [fit_cells hnil hf] at hc
   obtain ⟨_, hlen, hat⟩ := World.cells?_some hc
   refine ⟨cs', hlen, fun j hj => ?_, ih.1 e' n cs' _ hnil hf ht⟩
   rw [← hat j hj, Go.Deep.add_add]
 | scope f ih =>
  refine ⟨fun t fuel cs x _ hf h => ?_, fun t fs o m cs _ h => by simp at h⟩
  simp only [tfit, Bool.and_eq_true, beq_iff_eq] at hf
  obtain ⟨hf, hcz⟩ := hf
  split at hf <;> try (simp at hf; done)
  rename_i fs hu
  obtain ⟨xs, n, _, _, hlen, hxl, hg⟩ := DataW.trod_struct hu h
  simp only [Bool.and_eq_true] at hf
  obtain ⟨hcn, hf⟩ := hf
  have hcn : (∃ a r, f = .seq a r) ∨ f = .skip := by
   cases f <;> simp_all [tlist]
  have := ih.2 t fs.toList 0 n cs hf hcn (by omega) (fun i f' hi => ?_)
  ·simpa [Rd] using this
  ·have hi' : fs[i]? = some f' := by simpa using hi
   rw [hg i f' hi']
   have : i < xs.length := by rw [hxl]; exact (Array.getElem?_eq_some_iff.1 hi').1
   exact ⟨_, List.getElem?_eq_getElem this⟩
 | seq a r iha ihr =>
  refine ⟨fun t fuel cs x _ hf h => by simp [tfit] at hf, fun t fs o m cs hf _ hlen hg => ?_⟩
  simp only [tfit] at hf
  cases fs with
  | nil => simp at hf
  | cons f fs =>
   simp only [Bool.and_eq_true, beq_iff_eq, Bool.not_eq_true'] at hf
   obtain ⟨⟨⟨⟨ho, hn⟩, ha⟩, hrc⟩, hr⟩ := hf
   subst ho
   obtain ⟨y, hy⟩ := hg 0 f rfl
   rw [fit_cells hn ha] at hy
   have h1 := iha.1 f.type m _ y hn ha hy
   have hrc : (∃ a' r', r = .seq a' r') ∨ r = .skip := by
    cases r <;> simp_all [tlist]
   have h2 := ihr.2 t fs (f.offset + tsize a) m cs hr hrc (by simp only [tsize] at hlen; omega) (fun i f' hi => hg (i + 1) f' hi)
   refine ⟨_, _, ?_, h1, h2⟩
   rw [← List.drop_drop]
   exact (List.take_append_drop _ _).symm
 | skip =>
  refine ⟨fun t fuel cs x h => by simp [tnil] at h, fun t fs o m cs hf _ hlen hg => ?_⟩
  simp only [tsize] at hlen
  show _ = _
  simp; omega
 | block n e ih =>
  refine ⟨fun t fuel cs x _ hf h => ?_, fun t fs o m cs _ h => by simp at h⟩
  simp only [tfit, Bool.and_eq_true, beq_iff_eq] at hf
  obtain ⟨hf, hcz⟩ := hf
  split at hf <;> try (simp at hf; done)
  rename_i n' e' hu
  simp only [Bool.and_eq_true, Bool.not_eq_true', beq_iff_eq] at hf
  obtain ⟨⟨rfl, hn⟩, hf⟩ := hf
  obtain ⟨xs, m, _, _, hlen, hxl, hg⟩ := DataW.trod_array hu h
  refine ⟨by omega, fun i hi => ?_⟩
  have := hg i hi
  rw [fit_cells hn hf] at this
  rw [List.getElem?_eq_getElem (by omega)] at this
  exact ih.1 e' m _ _ hn hf this
theorem Rd_of_trod (ty : Ty) {t : TypeId} {cs : List Value} {x : DataW H × List MemPlace} {fuel : Nat} (hn : tnil ty = false) (hf : tfit P ty t [] 0 = true) (h : DataW.trod enc P w base (fun _ => true) held fuel t cs = some x) : Rd w ty cs :=
 (Rd_all ty).1 t fuel cs x hn hf h
end
theorem Rd.slice_at {w : World} {e : Ty} {a : Option Addr} {len cap : Nat} (h : Rd w (.loop e) [.slice a len cap]) (he : 0 < tsize e) :
  len ≤ cap ∧ cap ≤ maxLen ∧ ((a = none ∧ len = 0 ∧ cap = 0) ∨ (cap = 0 ∧ len = 0 ∧ ∃ x, a = some x) ∨ ∃ b o, a = some ⟨b, o, none⟩ ∧ b < w.heap.size ∧ 0 < cap ∧
   ∀ i, i < cap → ∃ cs', cs'.length = tsize e ∧ Rd w e cs' ∧ ∀ j, j < tsize e → w.cell? ⟨b, o + i * tsize e + j, none⟩ = cs'[j]?) := by
 rcases h with h | ⟨x, l, c, h, hl, hm, hi⟩
 ·simp at h
  obtain ⟨rfl, rfl, rfl⟩ := h
  exact ⟨Nat.le_refl _, Nat.zero_le _, .inl ⟨rfl, rfl, rfl⟩⟩
 ·simp at h
  obtain ⟨rfl, rfl, rfl⟩ := h
  refine ⟨hl, hm, .inr ?_⟩
  by_cases hc : cap = 0
  ·exact .inl ⟨hc, by omega, x, rfl⟩
  ·right
   obtain ⟨b, o, s⟩ := x
   obtain ⟨cs0, h0l, h0c, _⟩ := hi 0 (by omega)
   have hc0 := h0c 0 he
   have hv : cs0[0]? = some (cs0[0]'(by omega)) := List.getElem?_eq_getElem (by omega)
   rw [hv] at hc0
   have e0 : (⟨b, o, s⟩ : Addr).add (0 * tsize e + 0) = ⟨b, o, s⟩ := by simp [Addr.add]
   rw [e0] at hc0
   have hs : s = none := by
    cases s with
    | none => rfl
    | some q => simp only [World.cell?] at hc0; split at hc0 <;> simp at hc0
   subst hs
   refine ⟨b, o, rfl, World.block_lt_of_cell? _ _ hc0, by omega, fun i hic => ?_⟩
   obtain ⟨cs, h1, h2, h3⟩ := hi i hic
   refine ⟨cs, h1, h3, fun j hj => ?_⟩
   rw [← h2 j hj]
   congr 1
   simp only [Addr.add]
   split
   ·rename_i hz; simp [hz, Nat.add_assoc]
   ·simp [Nat.add_assoc]
end Go.Proofs.YtafhnlnhflehhaaGreatDoor

namespace Go.Proofs.YtafhnlnhflehhaaGreatDoor
open Go.RowKit
def SlB (w : World) (sa : Option Addr) (ln cp : Nat) (l : List Int) : Prop :=
 ln = l.length ∧ ln ≤ cp ∧ cp ≤ maxLen ∧ (∀ x ∈ l, 0 ≤ x ∧ x ≤ 255) ∧
 ((ln = 0 ∧ (sa = none → cp = 0)) ∨ ∃ b o, sa = some ⟨b, o, none⟩ ∧ b < w.heap.size ∧ ∀ i, i < ln → w.cell? ⟨b, o + i, none⟩ = some (.int .u8 (l.getD i 0)))
theorem SlB.below {w w' : World} {sa : Option Addr} {ln cp : Nat} {l : List Int} (h : SlB w sa ln cp l) (hb : Below w.heap.size w w') : SlB w' sa ln cp l := by
 obtain ⟨h1, h2, h3, h4, h5⟩ := h
 refine ⟨h1, h2, h3, h4, ?_⟩
 rcases h5 with h5 | ⟨b, o, hs, hlt, hc⟩
 ·exact .inl h5
 ·exact .inr ⟨b, o, hs, Nat.lt_of_lt_of_le hlt hb.size, fun i hi => (hb.cell (p := ⟨b, o + i, none⟩) hlt).trans (hc i hi)⟩
theorem SlB.len {w : World} {sa : Option Addr} {ln cp : Nat} {l : List Int} (h : SlB w sa ln cp l) : ln ≤ 9223372036854775807 := by
 obtain ⟨h1, h2, h3, _⟩ := h
 unfold maxLen at h3; omega
theorem Below.drewN {B : Nat} {a w : World} (h : Below B a w) (k : Nat) : Below B a (w.drewN k) := ⟨h.os, h.tape, h.output, h.size, h.block⟩
end Go.Proofs.YtafhnlnhflehhaaGreatDoor

namespace Go.Proofs.YtafhnlnhflehhaaGreatDoor
open Go.RowKit
def ivA (k : IntKind) (l : List Nat) : Array Value := (l.map fun n => Value.int k (n : Nat)).toArray
section
variable {P : Program}
end
theorem Below.setRow {B : Nat} {a w : World} (h : Below B a w) {g : Nat} (hg : B ≤ g) (cs : Array Value) : Below B a (w.setRow g cs) := by
 refine h.trans ⟨rfl, rfl, rfl, by simp [World.setRow], fun k hk => ?_⟩
 simp only [World.setRow, Array.getElem?_modify]
 rw [if_neg (by omega)]
theorem setRow_get (w : World) (g : Nat) (cs old : Array Value) (t : TypeId) (f : Nat × Nat) (h : w.heap[g]? = some (.cells old t f)) : (w.setRow g cs).heap[g]? = some (.cells cs t f) := by
 simp [World.setRow, Array.getElem?_modify, h]
@[go_sem] theorem drewN_setCell (w : World) (k : Nat) (a : Addr) (v : Value) : (w.drewN k).setCell a v = (w.setCell a v).drewN k := rfl
@[go_sem] theorem drewN_alloc (w : World) (k : Nat) (o : Obj) : (w.drewN k).alloc o = (w.alloc o).drewN k := rfl
@[go_sem] theorem drewN_drew (w : World) (k : Nat) : (w.drewN k).drew = w.drewN (k + 1) := rfl
def Byt (l : List Nat) : Prop := ∀ i, l.getD i 0 < 256
theorem Byt.set {l : List Nat} (h : Byt l) (i x : Nat) (hx : x < 256) : Byt (l.set i x) := by
 intro j
 rw [List.getD_eq_getElem?_getD, List.getElem?_set]
 have := h j
 rw [List.getD_eq_getElem?_getD] at this
 split
 ·split
  ·exact hx
  ·simp
 ·exact this
end Go.Proofs.YtafhnlnhflehhaaGreatDoor

namespace Go.Proofs.YtafhnlnhflehhaaGreatDoor
open Go.RowKit
end Go.Proofs.YtafhnlnhflehhaaGreatDoor

namespace Go.Proofs.YtafhnlnhflehhaaGreatDoor
open Go.RowKit
end Go.Proofs.YtafhnlnhflehhaaGreatDoor
