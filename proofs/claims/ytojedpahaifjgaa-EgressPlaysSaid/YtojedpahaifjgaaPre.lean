/- What every walk wants: the kit's modules, and small laws on blocks of memory. -/
import Derived.Test.YtojedpahaifjgaaRows
import Derived.Test.YtojedpahaifjgaaGBa
import Derived.Test.YtojedpahaifjgaaGKi
import Derived.WalkKit
import Derived.WalkSpells
import Derived.WalkLawsBesides
import Derived.Deep.LoopGhost
import Derived.Deep.DeepCutAuto
import Derived.Deep.MidRow
import Derived.Laws.BitsAllLaws
import Derived.Laws.Rows
import Derived.Laws.ResultCell
import Derived.Deep.WholeRow
import Derived.OwnWalk
import Derived.IntWalk
namespace Go.Proofs.Ytojedpahaifjgaa
open Go.RowKit
theorem hp_new (w : World) (o : Obj) (n : Nat) (h : n = w.heap.size) : (w.alloc o).heap[n]? = some o := by subst h; exact heap_alloc_new w o
theorem hp_lt {w : World} {b : Nat} {o : Obj} (h : w.heap[b]? = some o) : b < w.heap.size := (Array.getElem?_eq_some_iff.1 h).1
theorem hp_cell {w : World} {b : Nat} {c : Array Value} {t : TypeId} {f : Nat × Nat} (h : w.heap[b]? = some (.cells c t f)) (i : Nat) : w.cell? ⟨b, i, none⟩ = c[i]? := by simp [World.cell?, h]
theorem hp_frz {w : World} {b : Nat} {c : Array Value} {t : TypeId} (h : w.heap[b]? = some (.cells c t (0, 0))) (i : Nat) : w.frozen? ⟨b, i, none⟩ = false := by simp [World.frozen?, h]
theorem hp_set {w : World} {b : Nat} {c : Array Value} {t : TypeId} {f : Nat × Nat} (h : w.heap[b]? = some (.cells c t f)) (i : Nat) (u : Value) : (w.setCell ⟨b, i, none⟩ u).heap[b]? = some (.cells (c.setIfInBounds i u) t f) := by
 simp [World.setCell, Array.getElem?_modify, h]
theorem hp_oth {w : World} {b k i : Nat} {v : Value} (h : k ≠ b) : (w.setCell ⟨b, i, none⟩ v).heap[k]? = w.heap[k]? := Below.heap_setCell _ _ _ _ h
theorem hp_ne {w : World} {a b : Nat} {c1 c2 : Array Value} {t1 t2 : TypeId} {f1 f2 : Nat × Nat} (h1 : w.heap[a]? = some (.cells c1 t1 f1)) (h2 : w.heap[b]? = some (.cells c2 t2 f2)) (ht : t1 ≠ t2) : a ≠ b := fun e => by
 subst e; rw [h1] at h2; cases h2; exact ht rfl
theorem hp_st {S : List Nat} {w w' : World} (h : Still S w w') {b : Nat} {o : Obj} (hb : w.heap[b]? = some o) (hs : b ∉ S) : w'.heap[b]? = some o := by
 rw [h.block b (hp_lt hb) hs]; exact hb
theorem hp_row {w : World} {g : Nat} {old : Array Value} {t : TypeId} {f : Nat × Nat} (h : w.heap[g]? = some (.cells old t f)) (cs : Array Value) : (w.setRow g cs).heap[g]? = some (.cells cs t f) := setRow_get w g cs old t f h
theorem iv_cell {w : World} {g : Nat} {k : IntKind} {l : List Nat} {t : TypeId} {f : Nat × Nat} (h : w.heap[g]? = some (.cells (ivA k l) t f)) (i : Nat) (hi : i < l.length) : w.cell? ⟨g, i, none⟩ = some (.int k (l.getD i 0 : Nat)) := by
 rw [hp_cell h, ivA_get k l i hi]
theorem iv_set {w : World} {g : Nat} {k : IntKind} {l : List Nat} {t : TypeId} {f : Nat × Nat} (h : w.heap[g]? = some (.cells (ivA k l) t f)) (i x : Nat) : (w.setCell ⟨g, i, none⟩ (.int k (x : Nat))).heap[g]? = some (.cells (ivA k (l.set i x)) t f) := by
 rw [hp_set h, ivA_set]
theorem wpList_store_new {P : Program} {ops : Array Oper} {rest : List Oper} {o : Oper} {a : Act} {w : World} {Q : Exit → Act → World → Prop} (hgd : o.guard = none) (T : TypeId) (x y : Operand) (ho : o.op = .store T x y) (Z c : Array Value) (t : TypeId)
  (hx : a.eval x = .pointer (some ⟨w.heap.size, 0, none⟩)) (hy : a.eval y = .agg c) (hi : (P.info? T).map (·.size) = some c.size) (hZ : Z.size = c.size) (h1 : c.all (·.oneCell') = true)
  (h : wpList P ops Q rest (a.put o.dst undef) (w.alloc (.cells c t))) : wpList P ops Q (o :: rest) a (w.alloc (.cells Z t)) := by
 refine wpList_store_row hgd T x y ho w.heap.size c hx hy t Z (hp_new w _ _ rfl) hi hZ h1 ?_
 rw [World.setRow_alloc_new]; exact h
theorem info_u8 : (Try.prog.info? 5).map (·.size) = some 1 := by kernel_rfl
theorem slU8 : SlTy Try.prog 34 5 1 1 := SlTy.mk' Try.underlying34 (by kernel_rfl) (by decide)
theorem SB_of_Rd {w : World} {sa : Option Addr} {ln cp : Nat} (h : Rd w (.loop (.label 4)) [.slice sa ln cp]) : ∃ l, SB w (.slice sa ln cp) ln l := by
 obtain ⟨l, h1, h2, h3, h4, h5⟩ := SlB_of_Rd h
 have hb : ByL (l.map Int.toNat) := by
  intro x hx
  obtain ⟨y, hy, rfl⟩ := List.mem_map.1 hx
  have := h4 y hy
  omega
 refine ⟨l.map Int.toNat, by simp [h1], hb, by rw [bvs_len]; simp [h1], Nat.le_trans h2 h3, ?_⟩
 rcases h5 with ⟨rfl, hc⟩ | ⟨b, o, rfl, hlt, hcell⟩
 ·exact .inl ⟨rfl, sa, cp, rfl, hc, h3⟩
 ·refine .inr ⟨b, o, cp, rfl, h2, h3, hlt, fun j hj => ?_⟩
  rw [hcell j (by omega), bvs_get _ _ (by simp; omega)]
  have hr := getD_range h4 j
  simp only [List.getD_eq_getElem?_getD, List.getElem?_map, List.getElem?_eq_getElem (show j < l.length by omega), Option.map_some, Option.getD_some] at hr ⊢
  congr 2; omega
end Go.Proofs.Ytojedpahaifjgaa
