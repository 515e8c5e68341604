/- Structs as variables, read and written whole at one step: at once or in a region that draws its order. No condition. -/
import Derived.Test.YtafhnlnhflehhaaDoorPre
import Derived.Test.YtafhnlnhflehhaaDoorBw
import Derived.Deep.MidRow
import Derived.Deep.OwnRows
namespace Go.Proofs.YtafhnlnhflehhaaDoor
open Go.RowKit
structure SwT (T : TypeId) (n : Nat) : Prop where
 hu : ∃ d, Tryd.prog.underlying T = some d ∧ (match d with | .struct _ | .array _ _ => true | _ => false) = true ∧ d.isRow = true
 hi : (Tryd.prog.info? T).map (·.size) = some n
theorem still_rowS (w : World) (g : Nat) (cs : Array Value) : Still [g] w (w.setRow g cs) :=
 ⟨rfl, rfl, rfl, by simp [World.setRow], fun k _ hk => by
  simp only [World.setRow, Array.getElem?_modify]
  rw [if_neg (fun e => hk (by simp [e]))]⟩
theorem HpB.range {w : World} {g : Nat} {c : Array Value} {T : TypeId} (h : HpB w g (.cells c T)) (off : Nat) (l : List Value) (hl : (c.toList.drop off).take l.length = l) : w.rangeAt g off l := fun j v hv => by
 have hj : j < l.length := (List.getElem?_eq_some_iff.1 hv).1
 refine (hp_cell h (off + j)).trans ?_
 rw [← hl, List.getElem?_take, if_pos hj, List.getElem?_drop] at hv
 rw [← hv]; simp
section
variable {T : TypeId} {n : Nat} {ops : Array Oper} {rest : List Oper} {o : Oper} {a : Act} {w : World} {Q : Exit → Act → World → Prop}
theorem swLd (hT : SwT T n) (hgd : o.guard = none) {x : Operand} (ho : o.op = .load T x) {g : Nat} (hx : a.eval x = .pointer (some ⟨g, 0, none⟩)) {c : Array Value} {t : TypeId} (H : HpB w g (.cells c t)) (hl : c.size = n)
  (h : wpList Tryd.prog ops Q rest (a.put o.dst (.agg c)) w) : wpList Tryd.prog ops Q (o :: rest) a w :=
 have ⟨d, h1, h2, _⟩ := hT.hu
 wpList_load_row hgd T x ho _ hx _ _ _ _ H h1 (by cases d <;> first | rfl | cases h2) (by rw [hT.hi, hl]) h
theorem swSt (hT : SwT T n) (hgd : o.guard = none) {x y : Operand} (ho : o.op = .store T x y) {g : Nat} {k z : Array Value} {t : TypeId} (hx : a.eval x = .pointer (some ⟨g, 0, none⟩)) (hy : a.eval y = .agg k) (H : HpB w g (.cells z t)) (hz : z.size = n) (hk : k.size = n) (h1 : k.all (·.oneCell') = true)
  (h : wpList Tryd.prog ops Q rest (a.put o.dst undef) (w.setRow g k)) : wpList Tryd.prog ops Q (o :: rest) a w :=
 wpList_store_row hgd T x y ho g _ hx hy _ _ H (by rw [hT.hi, hk]) (by rw [hz, hk]) h1 h
theorem swQl (hT : SwT T n) {C : World → Prop} {a1 : Act} {K : Act → Prop} {x : Operand} (ho : o.op = .load T x) {g off : Nat} (hx : a.eval x = .pointer (some ⟨g, off, none⟩)) {l : List Value} (hl : l.length = n) (h : ∀ w, C w → w.rangeAt g off l) (ha : a.put o.dst (.agg l.toArray) = a1) (hK : K a1) : o.quiet Tryd.prog a C K := by
 have ⟨_, h1, _, h2⟩ := hT.hu
 refine ⟨.agg l.toArray, fun w hw => ?_, by rw [ha]; exact hK⟩
 unfold Oper.quietAt execOp
 have := run_loadVar_mid w g off T l _ (h w hw) h1 h2 (by rw [hT.hi, hl])
 simp only [ho, hx, Instr.loadAt, Instr.sureAddr, Sem.run_bind, Sem.run_pure, Result.andThen_ok, this, Oper.quietUpon, and_self]
end
theorem rangeAt_bw {w w' : World} {g off : Nat} {l : List Value} (h : w.rangeAt g off l) (hb : BW w w') : w'.rangeAt g off l := fun j v hv => hb.cell (h j v hv)
end Go.Proofs.YtafhnlnhflehhaaDoor
