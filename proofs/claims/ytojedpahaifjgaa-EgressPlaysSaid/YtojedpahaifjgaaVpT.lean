/-  -/
import Derived.Test.YtojedpahaifjgaaGEj
import Derived.Test.YtojedpahaifjgaaClo
namespace Go.Proofs.Ytojedpahaifjgaa
open Go.RowKit
theorem OwnB.at {w : World} {base : Nat} {v : Value} {l : List Int} (h : OwnB w base v l) (h0 : 0 < l.length) : ∃ g cap, v = .slice (some ⟨g, 0, none⟩) l.length cap ∧ base ≤ g ∧ l.length ≤ cap ∧ cap ≤ maxLen ∧ (∀ i, i < l.length → w.cell? ⟨g, i, none⟩ = some (.int .u8 (l.getD i 0))) ∧ (∀ i, w.frozen? ⟨g, i, none⟩ = false) ∧
  (∀ (w' : World), Below (g + 1) w w' → OwnB w' base v l) ∧ ∀ i x, i < l.length → OwnB (w.setCell ⟨g, i, none⟩ (.int .u8 x)) base v (l.set i x) := by
 obtain ⟨h1, ⟨_, h2⟩ | ⟨g, cap, cur, rfl, hb, hh, hn, hc, hs, ht⟩⟩ := h
 ·omega
 ·refine ⟨g, cap, rfl, hb, hn, hc, fun i hi => ?_, fun i => by simp [World.frozen?, hh], fun w' hw => ⟨h1, .inr ⟨g, cap, cur, rfl, hb, by rw [hw.block g (by omega), hh], hn, hc, hs, ht⟩⟩, fun i x hi => ⟨by simp [bv], .inr ⟨g, cap, cur.setIfInBounds i (.int .u8 x), by simp, hb, ?_, by simpa using hn, hc, by simpa using hs, ?_⟩⟩⟩
  ·simp only [World.cell?, hh]
   have : cur[i]? = (cur.toList.take (l.length * 1))[i]? := by
    rw [List.getElem?_take, if_pos (by omega)]; simp
   rw [ht] at this
   simp only [Option.isSome_none, Bool.false_eq_true, if_false]
   rw [this, bv, List.getElem?_map, List.getElem?_eq_getElem hi]
   simp [List.getD_eq_getElem?_getD, List.getElem?_eq_getElem hi]
  ·simp [World.setCell, Array.getElem?_modify, hh]
  ·rw [Array.toList_setIfInBounds, List.length_set, List.take_set, ht, bv, bv, List.map_set]
theorem OwnB.le {w : World} {base base' : Nat} {v : Value} {l : List Int} (h : OwnB w base v l) (hb : base' ≤ base) : OwnB w base' v l := by
 obtain ⟨h1, h2 | ⟨g, cap, cur, rfl, hg, r⟩⟩ := h
 ·exact ⟨h1, .inl h2⟩
 ·exact ⟨h1, .inr ⟨g, cap, cur, rfl, Nat.le_trans hb hg, r⟩⟩
theorem OwnB.set {w : World} {base g n cap : Nat} {l : List Int} (h : OwnB w base (.slice (some ⟨g, 0, none⟩) n cap) l) {i : Nat} (hi : i < l.length) (x : Int) : OwnB (w.setCell ⟨g, i, none⟩ (.int .u8 x)) base (.slice (some ⟨g, 0, none⟩) n cap) (l.set i x) := by
 obtain ⟨g', cap', e, _, _, _, _, _, _, hs⟩ := h.at (by omega)
 cases e
 exact hs i x hi
set_option maxRecDepth 100000 in
set_option maxHeartbeats 1000000 in
theorem turn_narrow (l : List Int) (sa : Option Addr) (ln cp : Nat) (p : Int) (w : World) (hl : SlB w sa ln cp l) (hn : l.length ≤ 140737488355328) (h2 : 2 < l.length) (hp : 0 ≤ p) (hp' : p ≤ 65535) (b0 : Bool) (n1 : Int) (n4 : Int) (b5 : Bool) (n6 : Int) (ho : Hid (vpOut l = (#[.bool b0, .int .u8 n1, .bool true, .bool false, .int .u16 n4, .bool b5, .int .i64 n6], 2, 0))) :
  Calls Try.prog 42 #[.slice sa ln cp, .int .u16 p] w fun r w' => ∃ v, r = .returned (.tuple #[v, .bool true]) ∧ OwnB w' w.heap.size v (turnN l p false) ∧ Below w.heap.size w w' := by
 have hr := Lib.hid (read_any l sa ln cp w hl)
 have hv : bits .andNot .u8 (p % 256) 128 = p % 128 := by
  have := byte_all (fun x => bits .andNot .u8 x 128 == x % 128) (by decide +kernel) (p % 256) (by omega) (by omega)
  rw [beq_iff_eq.1 this]; omega
 replace hl := Lib.hid hl
 go_enter Try.func42, Try.ntmps42
 go_wp2_with fail
 refine hr.out.mono ?_
 rintro r w1 ⟨rfl, hb⟩
 rw [ho.out]
 dsimp only
 go_wp2_with fail
 have L1 := hb.alloc hb.size (.cells #[.bool b0, .int .u8 n1, .bool true, .bool false, .int .u16 n4, .bool b5, .int .i64 n6] 65)
 refine (clone_any l sa ln cp _ (hl.out.below L1) hn).mono ?_
 rintro r w2 ⟨v, rfl, hown, hb2, _, _⟩
 obtain ⟨g, cap, rfl, hg, hlc, hcm, hcell, hfz, hkeep, hset⟩ := hown.at (by omega)
 have L2 := L1.trans (hb2.mono (by have := L1.size; simp at this ⊢; omega))
 have hc2 := hcell 2 h2
 have hf2 := hfz 2
 have hS := Lib.hid (hset 2 (p % 128) h2)
 have hlm : l.length ≤ 9223372036854775807 := by omega
 have hv3 : w2.cell? ⟨w1.heap.size, 3, none⟩ = some (.bool false) := by
  rw [hb2.cell (p := ⟨w1.heap.size, 3, none⟩) (by simp)]; simp [go_sem]
 have hgw : w.heap.size ≤ g := by have := hb.size; simp at hg; omega
 clear hcell hfz hkeep hset hown hb2 hr ho
 go_wp2_with fail
 go_ret2
 exact ⟨_, rfl, hS.out.le (by have := L1.size; simpa using this), Below.set3 L2 hgw _⟩
set_option maxRecDepth 100000 in
set_option maxHeartbeats 1000000 in
theorem turn_wide (l : List Int) (sa : Option Addr) (ln cp : Nat) (p : Int) (w : World) (hl : SlB w sa ln cp l) (hn : l.length ≤ 140737488355328) (h3 : 3 < l.length) (hp : 0 ≤ p) (hp' : p ≤ 65535) (b0 : Bool) (n1 : Int) (n4 : Int) (b5 : Bool) (n6 : Int) (ho : Hid (vpOut l = (#[.bool b0, .int .u8 n1, .bool true, .bool true, .int .u16 n4, .bool b5, .int .i64 n6], 2, 0))) :
  Calls Try.prog 42 #[.slice sa ln cp, .int .u16 p] w fun r w' => ∃ v, r = .returned (.tuple #[v, .bool true]) ∧ OwnB w' w.heap.size v (turnN l p true) ∧ Below w.heap.size w w' := by
 have hr := Lib.hid (read_any l sa ln cp w hl)
 have hv : bits .or .u8 (p / 256) 128 = p / 256 % 128 + 128 := by
  have := byte_all (fun x => bits .or .u8 x 128 == x % 128 + 128) (by decide +kernel) (p / 256) (by omega) (by omega)
  rw [beq_iff_eq.1 this]
 replace hl := Lib.hid hl
 go_enter Try.func42, Try.ntmps42
 go_wp2_with fail
 refine hr.out.mono ?_
 rintro r w1 ⟨rfl, hb⟩
 rw [ho.out]
 dsimp only
 go_wp2_with fail
 have L1 := hb.alloc hb.size (.cells #[.bool b0, .int .u8 n1, .bool true, .bool true, .int .u16 n4, .bool b5, .int .i64 n6] 65)
 refine (clone_any l sa ln cp _ (hl.out.below L1) hn).mono ?_
 rintro r w2 ⟨v, rfl, hown, hb2, _, _⟩
 obtain ⟨g, cap, rfl, hg, hlc, hcm, hcell, hfz, hkeep, hset⟩ := hown.at (by omega)
 have L2 := L1.trans (hb2.mono (by have := L1.size; simp at this ⊢; omega))
 have hc2 := hcell 2 (by omega)
 have hc3 := hcell 3 h3
 have hf2 := hfz 2
 have hf3 := hfz 3
 have hown' := Lib.hid hown
 have hlm : l.length ≤ 9223372036854775807 := by omega
 have hv3 : w2.cell? ⟨w1.heap.size, 3, none⟩ = some (.bool true) := by
  rw [hb2.cell (p := ⟨w1.heap.size, 3, none⟩) (by simp)]; simp [go_sem]
 have hgw : w.heap.size ≤ g := by have := hb.size; simp at hg; omega
 clear hcell hfz hkeep hset hown hb2 hr ho
 go_wp2_with fail
 go_ret2
 refine ⟨_, rfl, ?_, Below.set3 (Below.set3 L2 hgw _) hgw _⟩
 have hq := ((hown'.out.set (i := 2) (by omega) (p / 256 % 128 + 128)).set (i := 3) (by simpa using h3) (p % 256)).le (base' := w.heap.size) (by have := L1.size; simpa using this)
 exact hq
set_option maxRecDepth 100000 in
set_option maxHeartbeats 1000000 in
theorem rturn_narrow (l : List Int) (sa : Option Addr) (ln cp : Nat) (p : Int) (w : World) (hl : SlB w sa ln cp l) (hn : l.length ≤ 140737488355328) (hp : 0 ≤ p) (hp' : p ≤ 65535) (b0 : Bool) (h2 : 2 < l.length) (n1 : Int) (n4 : Int) (b5 : Bool) (n6 : Int) (ho : Hid (rOut l = (#[.bool b0, .int .u8 n1, .bool true, .bool false, .int .u16 n4, .bool b5, .int .i64 n6], 2, 0))) :
  Calls Try.prog 14 #[.slice sa ln cp, .int .u16 p] w fun r w' => ∃ v, r = .returned (.tuple #[v, .bool true]) ∧ OwnB w' w.heap.size v (turnN l p false) ∧ Below w.heap.size w w' := by
 have hr := Lib.hid (Ref_any l sa ln cp w hl)
 replace hl := Lib.hid hl
 have hlm : l.length ≤ 9223372036854775807 := by omega
 go_enter Try.func14, Try.ntmps14
 go_wp2_with fail
 refine hr.out.mono ?_
 rintro r w1 ⟨rfl, hb⟩
 rw [ho.out]
 dsimp only
 have L1 := hb.alloc hb.size (.cells #[.bool b0, .int .u8 n1, .bool true, .bool false, .int .u16 n4, .bool b5, .int .i64 n6] 65)
 have O1 := OwnB.new (w1.alloc (.cells #[.bool b0, .int .u8 n1, .bool true, .bool false, .int .u16 n4, .bool b5, .int .i64 n6] 65)) w.heap.size #[] [] 0 (by have := hb.size; simp; omega) rfl (by decide) rfl
 rw [World.size_alloc] at O1
 replace L1 := Lib.hid L1
 replace O1 := Lib.hid O1
 clear hr ho
 go_wp2_with (at_builtin; go_must (refine wp_app rfl _ _ rfl w.heap.size (.slice (some ⟨w1.heap.size + 1, 0, none⟩) 0 0) [] l rfl O1.out _ _ _ rfl (hl.out.below (L1.out.alloc (by have := hb.size; simp; omega) _)) (by simpa using hn) (by have := hb.size; simp; omega) ?_; intro v' w' h1 h4 h3; have hb2 := OwnB.grown (by have := hb.size; simp; omega) O1.out h4; have L2 := (L1.out.alloc (by have := hb.size; simp; omega) (.cells #[] 5)).trans hb2; rw [List.nil_append] at h1; obtain ⟨g, cap, rfl, hg, hlc, hcm, hcell, hfz, hkeep, hset⟩ := h1.at (by omega); have hc2 := hcell 2 (by omega); have hf2 := hfz 2; have hv3 : w'.cell? ⟨w1.heap.size, 3, none⟩ = some (.bool false) := h4.cell (a := ⟨w1.heap.size, 3, none⟩) (by simp [go_sem]) (by simp [Value.ownBlock]); replace h1 := Lib.hid h1; clear hcell hfz hkeep hset h4 h3 hb2))
 go_ret2
 exact ⟨_, rfl, OwnB.set h1.out (by omega) _, Below.set3 L2 hg _⟩
set_option maxRecDepth 100000 in
set_option maxHeartbeats 1000000 in
theorem rturn_wide (l : List Int) (sa : Option Addr) (ln cp : Nat) (p : Int) (w : World) (hl : SlB w sa ln cp l) (hn : l.length ≤ 140737488355328) (hp : 0 ≤ p) (hp' : p ≤ 65535) (b0 : Bool) (h2 : 3 < l.length) (n1 : Int) (n4 : Int) (b5 : Bool) (n6 : Int) (ho : Hid (rOut l = (#[.bool b0, .int .u8 n1, .bool true, .bool true, .int .u16 n4, .bool b5, .int .i64 n6], 2, 0))) :
  Calls Try.prog 14 #[.slice sa ln cp, .int .u16 p] w fun r w' => ∃ v, r = .returned (.tuple #[v, .bool true]) ∧ OwnB w' w.heap.size v (turnN l p true) ∧ Below w.heap.size w w' := by
 have hr := Lib.hid (Ref_any l sa ln cp w hl)
 replace hl := Lib.hid hl
 have hlm : l.length ≤ 9223372036854775807 := by omega
 have hd1 : IntKind.u16.wrap (p.tdiv 256) = p / 256 := by rw [Int.tdiv_eq_ediv_of_nonneg hp, IntWalk.u16_in _ (by omega)]
 have hd2 : (p / 256).tmod 128 = p / 256 % 128 := Int.tmod_eq_emod_of_nonneg (by omega)
 have hd3 : (p / 256 % 128 + 128) % 256 = p / 256 % 128 + 128 := by omega
 go_enter Try.func14, Try.ntmps14
 go_wp2_with fail
 refine hr.out.mono ?_
 rintro r w1 ⟨rfl, hb⟩
 rw [ho.out]
 dsimp only
 have L1 := hb.alloc hb.size (.cells #[.bool b0, .int .u8 n1, .bool true, .bool true, .int .u16 n4, .bool b5, .int .i64 n6] 65)
 have O1 := OwnB.new (w1.alloc (.cells #[.bool b0, .int .u8 n1, .bool true, .bool true, .int .u16 n4, .bool b5, .int .i64 n6] 65)) w.heap.size #[] [] 0 (by have := hb.size; simp; omega) rfl (by decide) rfl
 rw [World.size_alloc] at O1
 replace L1 := Lib.hid L1
 replace O1 := Lib.hid O1
 clear hr ho
 go_wp2_with (at_builtin; go_must (refine wp_app rfl _ _ rfl w.heap.size (.slice (some ⟨w1.heap.size + 1, 0, none⟩) 0 0) [] l rfl O1.out _ _ _ rfl (hl.out.below (L1.out.alloc (by have := hb.size; simp; omega) _)) (by simpa using hn) (by have := hb.size; simp; omega) ?_; intro v' w' h1 h4 h3; have hb2 := OwnB.grown (by have := hb.size; simp; omega) O1.out h4; have L2 := (L1.out.alloc (by have := hb.size; simp; omega) (.cells #[] 5)).trans hb2; rw [List.nil_append] at h1; obtain ⟨g, cap, rfl, hg, hlc, hcm, hcell, hfz, hkeep, hset⟩ := h1.at (by omega); have hc2 := hcell 2 (by omega); have hf2 := hfz 2; have hc3 := hcell 3 h2; have hf3 := hfz 3; have hv3 : w'.cell? ⟨w1.heap.size, 3, none⟩ = some (.bool true) := h4.cell (a := ⟨w1.heap.size, 3, none⟩) (by simp [go_sem]) (by simp [Value.ownBlock]); replace h1 := Lib.hid h1; clear hcell hfz hkeep hset h4 h3 hb2))
 go_ret2
 have hq := ((h1.out.set (i := 2) (by omega) (p / 256 % 128 + 128)).set (i := 3) (by simpa using h2) (p % 256))
 refine ⟨_, rfl, ?_, Below.set3 (Below.set3 L2 hg _) hg _⟩
 exact hq
end Go.Proofs.Ytojedpahaifjgaa
