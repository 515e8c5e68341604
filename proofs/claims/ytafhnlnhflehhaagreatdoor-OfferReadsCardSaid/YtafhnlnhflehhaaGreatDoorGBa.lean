/- A general reading of plain data in memory: types as a small tree (Ty), 'Rd ty w cs': the cells cs hold plain data of that type in world w. 'Rd_of_trod': the claim form's own reading gives it. No condition. Slices of bytes that are read: 'SlB w sa ln cp l': the slice's elements are the numbers l, each from 0 to 255. Small laws on worlds. No condition. Arrays of numbers, by value and in memory: 'ivA k l' is the cells of an array of kind k that holds l. No condition. Two arrays of numbers compared. Whole arrays (and structs) loaded, in a region that draws. -/
import Derived.Test.YtafhnlnhflehhaaGreatDoorRows
import Derived.WalkKit
import Derived.ProofKit
import Derived.OpenShut
import Derived.ShutString
import Derived.ChangeOld
import Derived.Deep.Slices
import Derived.WalkSpells
import Derived.WalkLawsBesides
import Derived.Lib.Hide
import Derived.IntWalk
import Derived.Laws.Rows
import Derived.Laws.Tables
import Derived.Laws.NewBlocks
import Derived.Deep.Draws
import Derived.Laws.StructEq
import Derived.Test.YtafhnlnhflehhaaGreatDoorRg
namespace Go.Proofs.YtafhnlnhflehhaaGreatDoor
open Go.ChangeShapes Go.WideShapes Go.RowKit
abbrev Ty := Code
def kd : Nat → IntKind
 | 0 => .i8 | 1 => .i16 | 2 => .i32 | 3 => .i64 | 4 => .u8 | 5 => .u16 | 6 => .u32 | _ => .u64
def tsize : Ty → Nat
 | .label _ => 1
 | .ret => 1
 | .goto _ => 1
 | .loop _ => 1
 | .scope f => tsize f
 | .seq a r => tsize a + tsize r
 | .skip => 0
 | .block n t => n * tsize t
 | _ => 0
def Rd (w : World) : Ty → List Value → Prop
 | .region _ _ _, _ => False
 | .cond _ _ _, _ => False
 | .rangeFunc _ _ _ _, _ => False
 | .exit _, _ => False
 | .refuse _, _ => False
 | .label k, cs => ∃ n, cs = [.int (kd k) n] ∧ (Lit.int (kd k) n).wf = true
 | .ret, cs => ∃ b, cs = [.bool b]
 | .goto _, cs => ∃ s : ByteArray, cs = [.string s] ∧ s.size ≤ maxLen
 | .loop e, cs => cs = [.slice none 0 0] ∨ ∃ (a : Addr) (len cap : Nat), cs = [.slice (some a) len cap] ∧ len ≤ cap ∧ cap ≤ maxLen ∧
   ∀ i, i < cap → ∃ cs', cs'.length = tsize e ∧ (∀ j, j < tsize e → w.cell? (a.add (i * tsize e + j)) = cs'[j]?) ∧ Rd w e cs'
 | .scope f, cs => Rd w f cs
 | .seq a r, cs => ∃ c1 c2, cs = c1 ++ c2 ∧ Rd w a c1 ∧ Rd w r c2
 | .skip, cs => cs = []
 | .block n e, cs => cs.length = n * tsize e ∧ ∀ i, i < n → Rd w e ((cs.drop (i * tsize e)).take (tsize e))
theorem Rd.length {w : World} : ∀ {ty : Ty} {cs : List Value}, Rd w ty cs → cs.length = tsize ty
 | .region _ _ _, _, h => h.elim
 | .cond _ _ _, _, h => h.elim
 | .rangeFunc _ _ _ _, _, h => h.elim
 | .exit _, _, h => h.elim
 | .refuse _, _, h => h.elim
 | .label _, _, h => by obtain ⟨n, rfl, _⟩ := h; rfl
 | .ret, _, h => by obtain ⟨n, rfl⟩ := h; rfl
 | .goto _, _, h => by obtain ⟨n, rfl, _⟩ := h; rfl
 | .loop _, _, h => by rcases h with rfl | ⟨_, _, _, rfl, _⟩ <;> rfl
 | .scope f, _, h => Rd.length (ty := f) h
 | .seq a r, _, h => by
  obtain ⟨c1, c2, rfl, h1, h2⟩ := h
  rw [List.length_append, Rd.length h1, Rd.length h2]; rfl
 | .skip, _, h => by have h : _ = _ := h; subst h; rfl
 | .block n e, _, h => h.1
section
variable {H : Type} {enc : TypeId × Value → H} {P : Program} {w : World} {base : Nat} {held : Bool}
end
end Go.Proofs.YtafhnlnhflehhaaGreatDoor

namespace Go.Proofs.YtafhnlnhflehhaaGreatDoor
open Go.RowKit
def SlB (w : World) (sa : Option Addr) (ln cp : Nat) (l : List Int) : Prop :=
 ln = l.length ∧ ln ≤ cp ∧ cp ≤ maxLen ∧ (∀ x ∈ l, 0 ≤ x ∧ x ≤ 255) ∧
 ((ln = 0 ∧ (sa = none → cp = 0)) ∨ ∃ b o, sa = some ⟨b, o, none⟩ ∧ b < w.heap.size ∧ ∀ i, i < ln → w.cell? ⟨b, o + i, none⟩ = some (.int .u8 (l.getD i 0)))
theorem SlB.below {w w' : World} {sa : Option Addr} {ln cp : Nat} {l : List Int} (h : SlB w sa ln cp l) (hb : Below w.heap.size w w') : SlB w' sa ln cp l := by
 obtain ⟨h1, h2, h3, h4, h5⟩ := h
 refine ⟨h1, h2, h3, h4, ?_⟩
 rcases h5 with h5 | ⟨b, o, hs, hlt, hc⟩
 ·exact .inl h5
 ·exact .inr ⟨b, o, hs, Nat.lt_of_lt_of_le hlt hb.size, fun i hi => (hb.cell (p := ⟨b, o + i, none⟩) hlt).trans (hc i hi)⟩
theorem SlB.len {w : World} {sa : Option Addr} {ln cp : Nat} {l : List Int} (h : SlB w sa ln cp l) : ln ≤ 9223372036854775807 := by
 obtain ⟨h1, h2, h3, _⟩ := h
 unfold maxLen at h3; omega
theorem Below.drewN {B : Nat} {a w : World} (h : Below B a w) (k : Nat) : Below B a (w.drewN k) := ⟨h.os, h.tape, h.output, h.size, h.block⟩
end Go.Proofs.YtafhnlnhflehhaaGreatDoor

namespace Go.Proofs.YtafhnlnhflehhaaGreatDoor
open Go.RowKit
def ivA (k : IntKind) (l : List Nat) : Array Value := (l.map fun n => Value.int k (n : Nat)).toArray
section
variable {P : Program}
end
theorem Below.setRow {B : Nat} {a w : World} (h : Below B a w) {g : Nat} (hg : B ≤ g) (cs : Array Value) : Below B a (w.setRow g cs) := by
 refine h.trans ⟨rfl, rfl, rfl, by simp [World.setRow], fun k hk => ?_⟩
 simp only [World.setRow, Array.getElem?_modify]
 rw [if_neg (by omega)]
theorem setRow_get (w : World) (g : Nat) (cs old : Array Value) (t : TypeId) (f : Nat × Nat) (h : w.heap[g]? = some (.cells old t f)) : (w.setRow g cs).heap[g]? = some (.cells cs t f) := by
 simp [World.setRow, Array.getElem?_modify, h]
@[go_sem] theorem drewN_setCell (w : World) (k : Nat) (a : Addr) (v : Value) : (w.drewN k).setCell a v = (w.setCell a v).drewN k := rfl
@[go_sem] theorem drewN_alloc (w : World) (k : Nat) (o : Obj) : (w.drewN k).alloc o = (w.alloc o).drewN k := rfl
@[go_sem] theorem drewN_drew (w : World) (k : Nat) : (w.drewN k).drew = w.drewN (k + 1) := rfl
def Byt (l : List Nat) : Prop := ∀ i, l.getD i 0 < 256
theorem Byt.set {l : List Nat} (h : Byt l) (i x : Nat) (hx : x < 256) : Byt (l.set i x) := by
 intro j
 rw [List.getD_eq_getElem?_getD, List.getElem?_set]
 have := h j
 rw [List.getD_eq_getElem?_getD] at this
 split
 ·split
  ·exact hx
  ·simp
 ·exact this
end Go.Proofs.YtafhnlnhflehhaaGreatDoor

namespace Go.Proofs.YtafhnlnhflehhaaGreatDoor
open Go.RowKit
end Go.Proofs.YtafhnlnhflehhaaGreatDoor

namespace Go.Proofs.YtafhnlnhflehhaaGreatDoor
open Go.RowKit
end Go.Proofs.YtafhnlnhflehhaaGreatDoor
