/- slices.Sort and slices.Compact of []int: the shelf's contracts at this program (their numbers are this seat's), and what the room wants of them. No condition but the sizes'. -/
import Derived.Test.YtebeifkgjhgmeaaRmA
import Derived.Shelf.Sort.Plain
import Derived.Shelf.Slices.CompactI
import Derived.Ground.NamesProg
import Derived.Ground.Names2Prog
import Derived.Lib.RowBridge
namespace Go.Proofs.Ytebeifkgjhgmeaa
open Go.Shelf Go.RowKit
def laysSort_ren : Go.Shelf.Ren := ⟨fun | 189 => 31 | 125 => 42 | 257 => 41 | 128 => 53 | 129 => 54 | 294 => 44 | 295 => 45 | 296 => 46 | 297 => 47 | 298 => 48 | 299 => 49 | 216 => 50 | 300 => 51 | 301 => 52 | 328 => 55 | 329 => 56 | 330 => 57 | 331 => 58 | 332 => 59 | 215 => 60 | 343 => 61 | n => n, fun | 28 => 39 | 3 => 3 | 46 => 94 | 0 => 0 | 51 => 48 | 53 => 29 | 4 => 4 | 183 => 97 | 182 => 96 | 131 => 102 | 5 => 5 | 9 => 9 | 218 => 105 | 222 => 109 | 228 => 111 | 229 => 112 | n => n, fun | n => n⟩
theorem laysSort : Go.Proofs.Lays.n189 Try.prog laysSort_ren := {
 mixed := by kernel_rfl
 f125 := Try.func42.trans (congrArg some (by kernel_rfl))
 f128 := Try.func53.trans (congrArg some (by kernel_rfl))
 f129 := Try.func54.trans (congrArg some (by kernel_rfl))
 f189 := Try.func31.trans (congrArg some (by kernel_rfl))
 f215 := Try.func60.trans (congrArg some (by kernel_rfl))
 f216 := Try.func50.trans (congrArg some (by kernel_rfl))
 f257 := Try.func41.trans (congrArg some (by kernel_rfl))
 f294 := Try.func44.trans (congrArg some (by kernel_rfl))
 f295 := Try.func45.trans (congrArg some (by kernel_rfl))
 f296 := Try.func46.trans (congrArg some (by kernel_rfl))
 f297 := Try.func47.trans (congrArg some (by kernel_rfl))
 f298 := Try.func48.trans (congrArg some (by kernel_rfl))
 f299 := Try.func49.trans (congrArg some (by kernel_rfl))
 f300 := Try.func51.trans (congrArg some (by kernel_rfl))
 f301 := Try.func52.trans (congrArg some (by kernel_rfl))
 f328 := Try.func55.trans (congrArg some (by kernel_rfl))
 f329 := Try.func56.trans (congrArg some (by kernel_rfl))
 f330 := Try.func57.trans (congrArg some (by kernel_rfl))
 f331 := Try.func58.trans (congrArg some (by kernel_rfl))
 f332 := Try.func59.trans (congrArg some (by kernel_rfl))
 f343 := Try.func61.trans (congrArg some (by kernel_rfl))
 t0 := Try.underlying0
 a0 := Try.isAgg0
 z0 := Try.sizeOf0
 v0 := Try.zeroValue0
 t3 := Try.underlying3
 a3 := Try.isAgg3
 z3 := Try.sizeOf3
 v3 := Try.zeroValue3
 t4 := Try.underlying4
 a4 := Try.isAgg4
 z4 := Try.sizeOf4
 v4 := Try.zeroValue4
 t5 := Try.underlying5
 a5 := Try.isAgg5
 z5 := Try.sizeOf5
 v5 := Try.zeroValue5
 t9 := Try.underlying9
 a9 := Try.isAgg9
 z9 := Try.sizeOf9
 v9 := Try.zeroValue9
 t28 := Try.underlying39
 a28 := Try.isAgg39
 z28 := Try.sizeOf39
 v28 := Try.zeroValue39
 t46 := Try.underlying94
 a46 := Try.isAgg94
 z46 := Try.sizeOf94
 v46 := Try.zeroValue94
 t51 := Try.underlying48
 a51 := Try.isAgg48
 z51 := Try.sizeOf48
 v51 := Try.zeroValue48
 t53 := Try.underlying29
 a53 := Try.isAgg29
 z53 := Try.sizeOf29
 v53 := Try.zeroValue29
 t131 := Try.underlying102
 a131 := Try.isAgg102
 z131 := Try.sizeOf102
 v131 := Try.zeroValue102
 t182 := Try.underlying96
 a182 := Try.isAgg96
 z182 := Try.sizeOf96
 v182 := Try.zeroValue96
 t183 := Try.underlying97
 a183 := Try.isAgg97
 z183 := Try.sizeOf97
 v183 := Try.zeroValue97
 t218 := Try.underlying105
 a218 := Try.isAgg105
 z218 := Try.sizeOf105
 v218 := Try.zeroValue105
 t222 := Try.underlying109
 a222 := Try.isAgg109
 z222 := Try.sizeOf109
 v222 := Try.zeroValue109
 t228 := Try.underlying111
 a228 := Try.isAgg111
 z228 := Try.sizeOf111
 v228 := Try.zeroValue111
 t229 := Try.underlying112
 a229 := Try.isAgg112
 z229 := Try.sizeOf112
 v229 := Try.zeroValue112 }
def laysCompact_ren : Go.Shelf.Ren := ⟨fun | 20 => 32 | n => n, fun | 22 => 39 | 3 => 3 | 4 => 4 | 0 => 0 | n => n, fun | n => n⟩
theorem laysCompact : Go.Proofs.Lays2.n20 Try.prog laysCompact_ren := {
 mixed := by kernel_rfl
 f20 := Try.func32.trans (congrArg some (by kernel_rfl))
 t0 := Try.underlying0
 a0 := Try.isAgg0
 z0 := Try.sizeOf0
 v0 := Try.zeroValue0
 t3 := Try.underlying3
 a3 := Try.isAgg3
 z3 := Try.sizeOf3
 v3 := Try.zeroValue3
 t4 := Try.underlying4
 a4 := Try.isAgg4
 z4 := Try.sizeOf4
 v4 := Try.zeroValue4
 t22 := Try.underlying39
 a22 := Try.isAgg39
 z22 := Try.sizeOf39
 v22 := Try.zeroValue39
 i3 := by kernel_rfl }
theorem still_putRow {α : Type} [Inhabited α] (enc : α → Value) (w : World) (q blk off : Nat) (d : Array α) : Still [blk] w (Sort.putRow enc (Sort.ahead w q) blk off d) :=
 ⟨rfl, rfl, rfl, by simp, fun k _ hk => by
  simp only [Sort.putRow, Sort.mapBlock, Array.getElem?_modify]
  rw [if_neg (fun e => hk (by simp [e]))]
  rfl⟩
theorem still_grow (w : World) (S : List Nat) (os : Array Obj) : Still S w (Sort.grow w os) :=
 ⟨rfl, rfl, rfl, by simp [Sort.grow], fun k hk _ => by
  simp only [Sort.grow]
  rw [Array.getElem?_append_left hk]⟩
def HoI (w : World) (blk off : Nat) (l : List Int) : Prop := Sort.Holds (Value.int .i64) w blk off l.toArray
theorem sort_ok (blk off cap : Nat) (l : List Int) (w : World) (hH : HoI w blk off l) (hblk : blk < w.heap.size) (hsz : l.length ≤ 1000000) :
  Calls Try.prog 31 #[.slice (some ⟨blk, off, none⟩) l.length cap] w fun e w' => e = .returned (.tuple #[]) ∧ ∃ l' : List Int, l'.length = l.length ∧ (l.length ≤ 1 → l' = l) ∧ HoI w' blk off l' ∧ Still [blk] w w' := by
 refine (Any.slices_Sort_int laysSort blk off cap l w hH hblk (by omega)).mono ?_
 rintro e w' ⟨rfl, q, os, rfl⟩
 refine ⟨rfl, l.mergeSort fun x y => decide (x ≤ y), List.length_mergeSort .., fun h1 => ?_, ?_, (still_putRow _ w q blk off _).trans (still_grow _ _ os)⟩
 ·match l, h1 with
  | [], _ => simp
  | [_], _ => simp
 ·exact Sort.holds_grow _ _ os blk off _ (by simpa using hblk) (Sort.holds_putRow _ _ blk off l.toArray _ (Sort.holds_ahead _ w q blk off _ hH) (by simp))
theorem compact_ok (blk off cap : Nat) (l : List Int) (w : World) (hH : HoI w blk off l) (hsz : l.length ≤ 1000000) (hcap : l.length ≤ cap) :
  Calls Try.prog 32 #[.slice (some ⟨blk, off, none⟩) l.length cap] w fun e w' => ∃ m, e = .returned (.slice (some ⟨blk, off, none⟩) m cap) ∧ m ≤ l.length ∧ (l.length ≤ 1 → m = l.length) ∧ Still [blk] w w' := by
 refine (Any.slices_Compact_int laysCompact blk off cap l w hH (by omega) hcap).mono ?_
 rintro e w' ⟨rfl, q, rfl⟩
 refine ⟨_, rfl, Lib.compact_length_le l, fun h1 => ?_, still_putRow _ w q blk off _⟩
 rw [Lib.compact_all l fun j hj => ?_]
 unfold Lib.keeps
 exact decide_eq_true (.inl (by omega))
end Go.Proofs.Ytebeifkgjhgmeaa
