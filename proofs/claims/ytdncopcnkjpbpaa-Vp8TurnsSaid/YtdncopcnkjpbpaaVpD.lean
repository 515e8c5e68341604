import Derived.Test.YtdncopcnkjpbpaaVpE
namespace Go.Proofs.Ytdncopcnkjpbpaa
open Go.RowKit
set_option maxRecDepth 100000 in
set_option maxHeartbeats 1000000 in
theorem Read_any (l : List Int) (sa : Option Addr) (ln cp : Nat) (w : World) (hl : SlB w sa ln cp l) (b0 : Bool) (n1 : Int) (b2 b3 : Bool) (n4 : Int) (b5 : Bool) (n6 : Int) (pl er : Int) (ho : Hid (vpOut l = (#[.bool b0, .int .u8 n1, .bool b2, .bool b3, .int .u16 n4, .bool b5, .int .i64 n6], pl, er))) :
    Calls Try.prog 9 #[.slice sa ln cp] w fun r w' => r = .returned (.tuple #[.agg #[.bool b0, .int .u8 n1, .bool b2, .bool b3, .int .u16 n4, .bool b5, .int .i64 n6], .int .i64 er]) ∧ Below w.heap.size w w' := by
  have hL := (Below.refl w.heap.size w).alloc (Nat.le_refl _) (.cells #[.bool false, .int .u8 0, .bool false, .bool false, .int .u16 0, .bool false, .int .i64 0] 26)
  have hr := Lib.hid (read_any l sa ln cp _ (hl.below hL))
  have hcell : ∀ (i : Nat) (v : Value), #[Value.bool false, .int .u8 0, .bool false, .bool false, .int .u16 0, .bool false, .int .i64 0][i]? = some v → (w.alloc (.cells #[.bool false, .int .u8 0, .bool false, .bool false, .int .u16 0, .bool false, .int .i64 0] 26)).cell? ⟨w.heap.size, i, none⟩ = some v := fun i v h => by simpa [go_sem] using h
  have hfz : (w.alloc (.cells #[.bool false, .int .u8 0, .bool false, .bool false, .int .u16 0, .bool false, .int .i64 0] 26)).frozen? ⟨w.heap.size, 0, none⟩ = false := by simp [go_sem]
  clear hl
  replace hcell := Lib.hid hcell
  replace hfz := Lib.hid hfz
  go_enter Try.func9, Try.ntmps9
  go_wp2_with fail
  refine hr.out.mono ?_
  rintro r w1 ⟨rfl, hb⟩
  rw [ho.out]
  dsimp only
  have hz : w.heap.size < (w.alloc (.cells #[.bool false, .int .u8 0, .bool false, .bool false, .int .u16 0, .bool false, .int .i64 0] 26)).heap.size := by simp
  have hblk : w1.heap[w.heap.size]? = some (.cells #[.bool false, .int .u8 0, .bool false, .bool false, .int .u16 0, .bool false, .int .i64 0] 26) := by
    rw [hb.block _ hz]; show (w.heap.push _)[w.heap.size]? = _; simp
  have L1 := hL.trans (hb.mono (by simp))
  have hz1 : w.heap.size < w1.heap.size := by have := hb.size; simp at this; omega
  have hcs : ∀ i v, #[Value.bool false, .int .u8 0, .bool false, .bool false, .int .u16 0, .bool false, .int .i64 0][i]? = some v → w1.cell? ⟨w.heap.size, i, none⟩ = some v := fun i v h => by simp only [World.cell?, hblk]; simpa using h
  have hc0 := hcs 0 _ rfl
  have hc1 := hcs 1 _ rfl
  have hc2 := hcs 2 _ rfl
  have hc3 := hcs 3 _ rfl
  have hc4 := hcs 4 _ rfl
  have hc5 := hcs 5 _ rfl
  have hc6 := hcs 6 _ rfl
  have hfr : ∀ i, w1.frozen? ⟨w.heap.size, i, none⟩ = false := fun i => by simp only [World.frozen?, hblk]; simp
  clear hcs hblk hb hr ho hcell hfz hL
  go_wp2_with fail
  exact bodyPost_ret (v := .tuple #[.agg #[.bool b0, .int .u8 n1, .bool b2, .bool b3, .int .u16 n4, .bool b5, .int .i64 n6], .int .i64 er]) (by simp [results, Try.results9, go_sem, *]) rfl ⟨rfl, by repeat (first | (with_reducible exact L1) | (with_reducible refine Below.alloc ?_ (by simp; omega) _) | (with_reducible refine Below.set3 ?_ (Nat.le_refl _) _))⟩

def PayT (l : List Int) : Prop := ∃ (b0 : Bool) (n1 : Int) (b2 b3 : Bool) (n4 : Int) (b5 : Bool) (n6 pl er : Int), vpOut l = (#[.bool b0, .int .u8 n1, .bool b2, .bool b3, .int .u16 n4, .bool b5, .int .i64 n6], pl, er)
theorem payT (l : List Int) : PayT l := by
  unfold PayT vpOut vpFin
  split
  · exact ⟨_, _, _, _, _, _, _, _, _, rfl⟩
  · exact ⟨_, _, _, _, _, _, _, _, _, rfl⟩

theorem Ref_any (l : List Int) (sa : Option Addr) (ln cp : Nat) (w : World) (hl : SlB w sa ln cp l) : Calls Try.prog 10 #[.slice sa ln cp] w (rPost l w) := by
  by_cases h : l.length < 1
  · exact ref_empty l sa ln cp w hl h
  · have hlen := hl.len
    obtain ⟨h1, h2, h3, h4, h5⟩ := hl
    rcases h5 with h5 | ⟨b, o, rfl, hlt, hc⟩
    · omega
    · subst h1
      exact ref_any l b o cp w (by omega) hlen hlt (Lib.hid hc) (Lib.hid (getD_range h4))

/-- The examples. -/
theorem alive13 (w : World) : Calls Try.prog 8 #[] w fun e w' => e = .returned (.bool true) ∧ Below w.heap.size w w' := by
  have e1 : Hid (vpOut [144, 128, 5, 0] = (#[.bool true, .int .u8 0, .bool true, .bool false, .int .u16 5, .bool true, .int .i64 3], 2, 0)) := by show _ = _; kernel_rfl
  have e2 : Hid (vpOut [144, 128] = (#[.bool false, .int .u8 0, .bool false, .bool false, .int .u16 0, .bool false, .int .i64 0], 0, 2)) := by show _ = _; kernel_rfl
  go_enter Try.func8, Try.ntmps8
  go_wp2_with fail
  have hS1 := SlB_new w #[.int .u8 144, .int .u8 128, .int .u8 5, .int .u8 0] 5 [144, 128, 5, 0] 4 rfl (by decide) (by decide) rfl
  refine (Read_any [144, 128, 5, 0] _ _ _ _ hS1 _ _ _ _ _ _ _ _ _ e1).mono ?_
  rintro e w1 ⟨rfl, hb⟩
  have L1 := ((Below.refl w.heap.size w).alloc (Nat.le_refl _) _).trans (hb.mono (by simp))
  have hz1 : w.heap.size ≤ w1.heap.size := L1.size
  clear hb
  go_wp2_with fail
  have hS2 := SlB_new (w1.alloc (.cells #[.bool true, .int .u8 0, .bool true, .bool false, .int .u16 5, .bool true, .int .i64 3] 26)) #[.int .u8 144, .int .u8 128] 5 [144, 128] 2 rfl (by decide) (by decide) rfl
  rw [World.size_alloc] at hS2
  refine (Read_any [144, 128] _ _ _ _ hS2 _ _ _ _ _ _ _ _ _ e2).mono ?_
  rintro e w2 ⟨rfl, hb⟩
  have hblk : w2.heap[w1.heap.size]? = some (.cells #[.bool true, .int .u8 0, .bool true, .bool false, .int .u16 5, .bool true, .int .i64 3] 26) := by
    rw [hb.block _ (by simp; omega), Below.heap_alloc _ _ _ (by simp)]; show (w1.heap.push _)[w1.heap.size]? = _; simp
  have hcs : ∀ i v, #[Value.bool true, .int .u8 0, .bool true, .bool false, .int .u16 5, .bool true, .int .i64 3][i]? = some v → w2.cell? ⟨w1.heap.size, i, none⟩ = some v := fun i v h => by simp only [World.cell?, hblk]; simpa using h
  have hc0 := hcs 0 _ rfl
  have hc1 := hcs 1 _ rfl
  have hc2 := hcs 2 _ rfl
  have hc3 := hcs 3 _ rfl
  have hc4 := hcs 4 _ rfl
  have hc5 := hcs 5 _ rfl
  have hc6 := hcs 6 _ rfl
  have L2 := ((L1.alloc hz1 (.cells #[.bool true, .int .u8 0, .bool true, .bool false, .int .u16 5, .bool true, .int .i64 3] 26)).alloc (by simp; omega) (.cells #[.int .u8 144, .int .u8 128] 5)).trans (hb.mono (by simp; omega))
  have hz2 : w1.heap.size < w2.heap.size := by have := hb.size; simp at this; omega
  clear hcs hblk hb hS1 hS2
  simp only [List.getElem_toArray, List.getElem_cons_zero, List.getElem_cons_succ] at hc0 hc1 hc2 hc3 hc4 hc5 hc6
  go_wp2
  go_ret
  exact ⟨rfl, L2.alloc (by omega) _⟩

/-- The law: what any payload begins with. -/
theorem law_reads (sa : Option Addr) (ln cp : Nat) (w : World) (h : Rd w (.loop (.label 4)) [.slice sa ln cp]) :
    Calls Try.prog 3 #[.slice sa ln cp] w fun e w' => e = .returned (.bool true) ∧ Below w.heap.size w w' := by
  obtain ⟨l, hl⟩ := SlB_of_Rd h
  clear h
  have hr := getD_range hl.2.2.2.1
  have he := vp_eq l hr
  have hl' := hl
  replace hl := Lib.hid hl
  have hln := hl'.len
  clear hl'
  obtain ⟨b0, n1, b2, b3, n4, b5, n6, pl, er, ho⟩ := payT l
  rw [ho] at he
  replace ho := Lib.hid ho
  replace he := Lib.hid he.symm
  replace hr := Lib.hid hr
  go_enter Try.func3, Try.ntmps3
  go_wp2_with fail
  refine (alive13 w).mono ?_
  rintro e w1 ⟨rfl, L1⟩
  by_cases h2000 : ln ≤ 2000
  · go_wp2_with fail
    refine (Read_any l sa ln cp w1 (hl.out.below L1) _ _ _ _ _ _ _ _ _ ho).mono ?_
    rintro e w2 ⟨rfl, hb⟩
    have L2 := L1.trans (hb.mono L1.size)
    clear hb
    go_wp2_with fail
    have L3 := L2.alloc L2.size (.cells #[.bool b0, .int .u8 n1, .bool b2, .bool b3, .int .u16 n4, .bool b5, .int .i64 n6] 26)
    refine (Ref_any l sa ln cp _ (hl.out.below L3)).mono ?_
    rintro e w3 ⟨rfl, hb⟩
    rw [he.out]
    dsimp only
    have hblk : w3.heap[w2.heap.size]? = some (.cells #[.bool b0, .int .u8 n1, .bool b2, .bool b3, .int .u16 n4, .bool b5, .int .i64 n6] 26) := by
      rw [hb.block _ (by simp)]; show (w2.heap.push _)[w2.heap.size]? = _; simp
    have hcs : ∀ i v, #[Value.bool b0, .int .u8 n1, .bool b2, .bool b3, .int .u16 n4, .bool b5, .int .i64 n6][i]? = some v → w3.cell? ⟨w2.heap.size, i, none⟩ = some v := fun i v h => by simp only [World.cell?, hblk]; simpa using h
    have hc0 := hcs 0 _ rfl
    have hc1 := hcs 1 _ rfl
    have hc2 := hcs 2 _ rfl
    have hc3 := hcs 3 _ rfl
    have hc4 := hcs 4 _ rfl
    have hc5 := hcs 5 _ rfl
    have hc6 := hcs 6 _ rfl
    have hz3 : w2.heap.size < w3.heap.size := by have := hb.size; simp at this; omega
    have L4 := L3.trans (hb.mono L3.size)
    clear hcs hblk hb
    simp only [List.getElem_toArray, List.getElem_cons_zero, List.getElem_cons_succ] at hc0 hc1 hc2 hc3 hc4 hc5 hc6
    go_wp2
    go_ret
    exact ⟨rfl, L4.alloc L4.size _⟩
  · go_wp2
    go_ret
    exact ⟨rfl, L1⟩
end Go.Proofs.Ytdncopcnkjpbpaa
