/-  -/
import Derived.Test.YtojedpahaifjgaaVpE
namespace Go.Proofs.Ytojedpahaifjgaa
open Go.RowKit
set_option maxRecDepth 100000 in
set_option maxHeartbeats 1000000 in
theorem Read_any (l : List Int) (sa : Option Addr) (ln cp : Nat) (w : World) (hl : SlB w sa ln cp l) (b0 : Bool) (n1 : Int) (b2 b3 : Bool) (n4 : Int) (b5 : Bool) (n6 : Int) (pl er : Int) (ho : Hid (vpOut l = (#[.bool b0, .int .u8 n1, .bool b2, .bool b3, .int .u16 n4, .bool b5, .int .i64 n6], pl, er))) :
  Calls Try.prog 84 #[.slice sa ln cp] w fun r w' => r = .returned (.tuple #[.agg #[.bool b0, .int .u8 n1, .bool b2, .bool b3, .int .u16 n4, .bool b5, .int .i64 n6], .int .i64 er]) ∧ Below w.heap.size w w' := by
 have hL := (Below.refl w.heap.size w).alloc (Nat.le_refl _) (.cells #[.bool false, .int .u8 0, .bool false, .bool false, .int .u16 0, .bool false, .int .i64 0] 65)
 have hr := Lib.hid (read_any l sa ln cp _ (hl.below hL))
 have hcell : ∀ (i : Nat) (v : Value), #[Value.bool false, .int .u8 0, .bool false, .bool false, .int .u16 0, .bool false, .int .i64 0][i]? = some v → (w.alloc (.cells #[.bool false, .int .u8 0, .bool false, .bool false, .int .u16 0, .bool false, .int .i64 0] 65)).cell? ⟨w.heap.size, i, none⟩ = some v := fun i v h => by simpa [go_sem] using h
 have hfz : (w.alloc (.cells #[.bool false, .int .u8 0, .bool false, .bool false, .int .u16 0, .bool false, .int .i64 0] 65)).frozen? ⟨w.heap.size, 0, none⟩ = false := by simp [go_sem]
 clear hl
 replace hcell := Lib.hid hcell
 replace hfz := Lib.hid hfz
 go_enter Try.func84, Try.ntmps84
 go_wp2_with fail
 refine hr.out.mono ?_
 rintro r w1 ⟨rfl, hb⟩
 rw [ho.out]
 dsimp only
 have hz : w.heap.size < (w.alloc (.cells #[.bool false, .int .u8 0, .bool false, .bool false, .int .u16 0, .bool false, .int .i64 0] 65)).heap.size := by simp
 have hblk : w1.heap[w.heap.size]? = some (.cells #[.bool false, .int .u8 0, .bool false, .bool false, .int .u16 0, .bool false, .int .i64 0] 65) := by
  rw [hb.block _ hz]; show (w.heap.push _)[w.heap.size]? = _; simp
 have L1 := hL.trans (hb.mono (by simp))
 have hz1 : w.heap.size < w1.heap.size := by have := hb.size; simp at this; omega
 have hcs : ∀ i v, #[Value.bool false, .int .u8 0, .bool false, .bool false, .int .u16 0, .bool false, .int .i64 0][i]? = some v → w1.cell? ⟨w.heap.size, i, none⟩ = some v := fun i v h => by simp only [World.cell?, hblk]; simpa using h
 have hc0 := hcs 0 _ rfl
 have hc1 := hcs 1 _ rfl
 have hc2 := hcs 2 _ rfl
 have hc3 := hcs 3 _ rfl
 have hc4 := hcs 4 _ rfl
 have hc5 := hcs 5 _ rfl
 have hc6 := hcs 6 _ rfl
 have hfr : ∀ i, w1.frozen? ⟨w.heap.size, i, none⟩ = false := fun i => by simp only [World.frozen?, hblk]; simp
 clear hcs hblk hb hr ho hcell hfz hL
 go_wp2_with fail
 exact bodyPost_ret (v := .tuple #[.agg #[.bool b0, .int .u8 n1, .bool b2, .bool b3, .int .u16 n4, .bool b5, .int .i64 n6], .int .i64 er]) (by simp [results, Try.results84, go_sem, *]) rfl ⟨rfl, by repeat (first | (with_reducible exact L1) | (with_reducible refine Below.alloc ?_ (by simp; omega) _) | (with_reducible refine Below.set3 ?_ (Nat.le_refl _) _))⟩
def PayT (l : List Int) : Prop := ∃ (b0 : Bool) (n1 : Int) (b2 b3 : Bool) (n4 : Int) (b5 : Bool) (n6 pl er : Int), vpOut l = (#[.bool b0, .int .u8 n1, .bool b2, .bool b3, .int .u16 n4, .bool b5, .int .i64 n6], pl, er)
theorem payT (l : List Int) : PayT l := by
 unfold PayT vpOut vpFin
 split
 ·exact ⟨_, _, _, _, _, _, _, _, _, rfl⟩
 ·exact ⟨_, _, _, _, _, _, _, _, _, rfl⟩
theorem Ref_any (l : List Int) (sa : Option Addr) (ln cp : Nat) (w : World) (hl : SlB w sa ln cp l) : Calls Try.prog 13 #[.slice sa ln cp] w (rPost l w) := by
 by_cases h : l.length < 1
 ·exact ref_empty l sa ln cp w hl h
 ·have hlen := hl.len
  obtain ⟨h1, h2, h3, h4, h5⟩ := hl
  rcases h5 with h5 | ⟨b, o, rfl, hlt, hc⟩
  ·omega
  ·subst h1
   exact ref_any l b o cp w (by omega) hlen hlt (Lib.hid hc) (Lib.hid (getD_range h4))
end Go.Proofs.Ytojedpahaifjgaa
