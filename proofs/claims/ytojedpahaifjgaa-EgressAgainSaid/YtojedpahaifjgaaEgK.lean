/- An egress of plain media: Want over the whole state; the document's example (printed by wip/gen/genEgK.py). No condition but the numbers' bounds. -/
import Derived.Test.YtojedpahaifjgaaEgJ
namespace Go.Proofs.Ytojedpahaifjgaa
open Go.RowKit

theorem want_E (base g gc gr gb : Nat) (src first many wanted goes layer : Int) (fol : Bool) (a0 b0 : Int) (out : Bool) (l0 pk by_ : Int) (v : Value) (L : PL) (rate burst hav : Int) (w : World) (h : EgI w base g gc gr gb src many wanted goes first fol a0 b0 out l0 pk by_ v L rate burst hav) :
    Calls Try.prog 9 #[.pointer (some ⟨gc, 0, none⟩), .int .i64 layer] w fun e w' => e = .returned (.int .i64 ((wantN many wanted goes layer).1 : Nat)) ∧ EgI w' base g gc gr gb src many (wantN many wanted goes layer).2.1 (wantN many wanted goes layer).2.2 first fol a0 b0 out l0 pk by_ v L rate burst hav ∧ Still [gc] w w' := by
  obtain ⟨⟨a1, a2, b1, b2, l1, l2, hp⟩, ch, rg, bk⟩ := h
  refine (want_any gc many wanted goes layer w ch).mono ?_
  rintro e w' ⟨he, C, T⟩
  have hne : ∀ {k : Nat} {cs : Array Value} {t : TypeId} {f : Nat × Nat}, w.heap[k]? = some (.cells cs t f) → t ≠ 112 → k ∉ [gc] := fun {k cs t f} hk t1 hm => by
    obtain rfl : k = gc := by simpa using hm
    exact hp_ne hk ch t1 rfl
  exact ⟨he, ⟨⟨a1, a2, b1, b2, l1, l2, hp.st T (hne hp (by decide))⟩, C, rg.still T (fun k hk => by obtain rfl : k = gc := (by simpa using hk); exact .inr ⟨_, _, _, ch, by decide⟩) (hne rg.cells (by decide)) (fun k hk hm => by obtain rfl : k = gc := (by simpa using hm); exact rg.q.ne ch (by decide) _ hk rfl), HpB.st (o := .cells _ _) bk T (hne bk (by decide))⟩, T⟩
set_option maxRecDepth 100000 in
set_option maxHeartbeats 8000000 in
theorem eg_alive (w : World) : Calls Try.prog 6 #[] w fun e w' => e = .returned (.bool true) ∧ BW w w' := by
  have cN := egnew_any 77 1 100 4 100 10 (by omega) (by omega) (by omega) (by omega) (by omega) w
  unfold limC at cN
  replace cN := Lib.hid cN
  obtain ⟨yA, hyA⟩ : ∃ y : Int, y = 100 := ⟨_, rfl⟩
  obtain ⟨yB, hyB⟩ : ∃ y : Int, y = 102 := ⟨_, rfl⟩
  obtain ⟨tA, htA⟩ : ∃ t : Bool, t = true := ⟨_, rfl⟩
  obtain ⟨tB, htB⟩ : ∃ t : Bool, t = false := ⟨_, rfl⟩
  obtain ⟨sA, hsA⟩ : ∃ y : Int, IntKind.u16.wrap yA = y := ⟨_, rfl⟩
  obtain ⟨sB, hsB⟩ : ∃ y : Int, IntKind.u16.wrap yB = y := ⟨_, rfl⟩
  replace hyA := Lib.hid hyA
  replace hyB := Lib.hid hyB
  replace htA := Lib.hid htA
  replace htB := Lib.hid htB
  replace hsA := Lib.hid hsA
  replace hsB := Lib.hid hsB
  go_enter Try.func6, Try.ntmps6
  go_wp2_with fail
  refine Calls.mono cN.out ?_
  rintro e w1 ⟨g, gc, gr, gb, rfl, hge, E1, hb⟩
  have E1 := Lib.hid E1
  have B1 := Lib.hid hb
  replace hge := Lib.hid hge
  clear hb cN
  dsimp only
  have z0 := (hp_cell E1.out.hp.choose_spec.choose_spec.choose_spec.choose_spec.choose_spec.choose_spec 0).trans (show _ = some (.pointer (some ⟨gc, 0, none⟩)) from rfl)
  have cW := Lib.hid (want_E w.heap.size g gc gr gb 77 100 1 (-1) (-1) 0 false 0 0 false 0 4 100 (.slice none 0 0) [] 10 (10 * 4) (10 * 4) w1 E1.out)
  go_wp2_with fail
  refine Calls.mono cW.out ?_
  rintro e w2 ⟨rfl, E2, T2⟩
  have B2 := Lib.hid (BW.stP B1.out T2 (fun k hk => by obtain rfl : k = gc := (by simpa using hk); exact hge.out.2.1))
  have hW : wantN 1 (-1) (-1) 0 = (0, 0, -1) := by decide
  rw [hW] at E2 ⊢
  replace E2 := Lib.hid E2
  clear T2 cW E1 B1 hW z0
  dsimp only
  have cP := push_E w.heap.size g gc gr gb 77 100 1 0 (-1) 0 tA false 0 0 false 0 4 100 (.slice none 0 0) [] 10 (10 * 4) (10 * 4) 0 5 false 0 5 0 1 none 0 0 false 0 none 0 0 none 0 0 0 yA (by omega) (by have := hyA.out; omega) (by omega) (by have := hyA.out; omega) (by rw [htA.out]; intro h; cases h) (by intro _; rw [hyA.out]; rfl) (by rw [htA.out]; decide) w2 E2.out
  unfold arC snC at cP
  rw [hsA.out] at cP
  replace cP := Lib.hid cP
  go_wp2_with fail
  refine Calls.mono cP.out ?_
  rintro e w3 ⟨⟨n1, rfl⟩, E3, T3⟩
  have B3 := Lib.hid (BW.stP B2.out T3 (fun k hk => by rcases (by simpa using hk : k = gc ∨ k = g) with rfl | rfl; exact hge.out.2.1; exact hge.out.1))
  replace E3 := Lib.hid E3
  clear T3 cP B2 E2
  dsimp only
  have BC : BW w3 (w3.alloc (.cells #[.int .i64 yA, .bool false, .int .u8 0, .int .u16 sA, .int .u32 n1, .int .u32 77, .slice none 0 0, .bool false, .int .u16 0, .slice none 0 0, .slice none 0 0, .int .u8 0, .bool tA] 60)) := (BW.refl _).alloc
  have X4 := Lib.hid (HpB.new w3 (.cells #[.int .i64 yA, .bool false, .int .u8 0, .int .u16 sA, .int .u32 n1, .int .u32 77, .slice none 0 0, .bool false, .int .u16 0, .slice none 0 0, .slice none 0 0, .int .u8 0, .bool tA] 60))
  have E4 := Lib.hid (E3.out.bw BC)
  have B4 := Lib.hid (B3.out.trans BC)
  clear E3 B3 
  replace BC := Lib.hid BC
  go_upto_region 6 with (fail)
  generalize (w3.alloc (.cells #[.int .i64 yA, .bool false, .int .u8 0, .int .u16 sA, .int .u32 n1, .int .u32 77, .slice none 0 0, .bool false, .int .u16 0, .slice none 0 0, .slice none 0 0, .int .u8 0, .bool tA] 60)) = w4 at *
  generalize w3.heap.size = gs at *
  rw [htA.out] at E4
  simp only [if_true] at E4
  have cP := push_E w.heap.size g gc gr gb 77 100 1 0 0 0 tB true 5 yA true yA 4 100 (.slice none 0 0) [] 10 (10 * 4) (10 * 4) 0 7 false 0 7 0 1 none 0 0 false 0 none 0 0 none 0 0 0 yB (by omega) (by have := hyA.out; have := hyB.out; omega) (by have := hyA.out; omega) (by have := hyB.out; omega) (by have := hyA.out; have := hyB.out; intro _; exact ⟨rfl, by omega, by omega, by omega, by omega, by omega⟩) (by rw [htB.out]; intro h; cases h) (by rw [htB.out]; decide) w4 E4.out
  unfold arC snC at cP
  rw [hsB.out] at cP
  have hXE := Lib.hid E4.out
  replace cP := Lib.hid cP
  go_wp2_with fail
  refine Calls.mono cP.out ?_
  rintro e w5 ⟨⟨n2, rfl⟩, E5, T5⟩
  have B5 := Lib.hid (BW.stP B4.out T5 (fun k hk => by rcases (by simpa using hk : k = gc ∨ k = g) with rfl | rfl; exact hge.out.2.1; exact hge.out.1))
  have X5 := Lib.hid (X4.out.st T5 (by
    obtain ⟨⟨A1, A2, D1, D2, M1, M2, hp⟩, ch, rg, bk⟩ := hXE.out
    have h1 := hp_ne X4.out ch (by decide)
    have h2 := hp_ne X4.out hp (by decide)
    simp [h1, h2]))
  replace E5 := Lib.hid E5
  clear T5 cP B4 E4 hXE X4
  dsimp only
  have BC : BW w5 (w5.alloc (.cells #[.int .i64 yB, .bool false, .int .u8 0, .int .u16 sB, .int .u32 n2, .int .u32 77, .slice none 0 0, .bool false, .int .u16 0, .slice none 0 0, .slice none 0 0, .int .u8 0, .bool tB] 60)) := (BW.refl _).alloc
  have Y6 := Lib.hid (HpB.new w5 (.cells #[.int .i64 yB, .bool false, .int .u8 0, .int .u16 sB, .int .u32 n2, .int .u32 77, .slice none 0 0, .bool false, .int .u16 0, .slice none 0 0, .slice none 0 0, .int .u8 0, .bool tB] 60))
  have E6 := Lib.hid (E5.out.bw BC)
  have B6 := Lib.hid (B5.out.trans BC)
  have X6 := Lib.hid (X5.out.bw BC)
  clear E5 B5 X5
  replace BC := Lib.hid BC
  go_upto_region 7 with (fail)
  generalize (w5.alloc (.cells #[.int .i64 yB, .bool false, .int .u8 0, .int .u16 sB, .int .u32 n2, .int .u32 77, .slice none 0 0, .bool false, .int .u16 0, .slice none 0 0, .slice none 0 0, .int .u8 0, .bool tB] 60)) = w6 at *
  generalize w5.heap.size = gt at *
  have e1 : yA = 100 := hyA.out
  have e2 : yB = 102 := hyB.out
  subst e1 e2
  have e3 : sA = 100 := by rw [← hsA.out]; decide
  subst e3
  have z0 := (hp_cell X6.out 0).trans (show _ = some (.int .i64 100) from rfl)
  have z3 := (hp_cell X6.out 3).trans (show _ = some (.int .u16 100) from rfl)
  have z5 := (hp_cell X6.out 5).trans (show _ = some (.int .u32 77) from rfl)
  have y0 := (hp_cell Y6.out 0).trans (show _ = some (.int .i64 102) from rfl)
  clear hyA hyB hsA hsB E6
  go_wp2_with fail
  go_ret
  exact ⟨rfl, B6.out⟩
end Go.Proofs.Ytojedpahaifjgaa
