/- The reference's pacer: Out. No condition but the sizes'. -/
import Derived.Test.YtgiajnfmjpdodaaPaU
namespace Go.Proofs.Ytgiajnfmjpdodaa
open Go.RowKit

def ROPost (base g gb : Nat) (r u pk by_ : Int) (v0 : Value) (gone : Nat) (R : PL × PL × Int) (w : World) (e : Ending) (w' : World) : Prop :=
  ∃ v, e = .returned v ∧ PQ w' base v R.1.length R.1 ∧ (∃ v', RpV w' base g (.pointer (some ⟨gb, 0, none⟩)) pk by_ v' R.2.1 gone ∧ ∀ k, v'.ownBlock = some k → v0.ownBlock = some k ∨ w.heap.size ≤ k) ∧ Rb w' gb r u R.2.2 ∧ (∀ k, v.ownBlock = some k → w.heap.size ≤ k) ∧ Still [g, gb] w w'
theorem firstR_succ (L : PL) (m : Nat) : atI (firstR L (m + 1)) = match firstR L m with
    | none => ((L.length - (m + 1) : Nat) : Int)
    | some a => if cl L (L.length - (m + 1)) ≤ cl L a then ((L.length - (m + 1) : Nat) : Int) else (a : Int) := by
  conv => lhs; unfold firstR
  cases firstR L m with
  | none => rfl
  | some a => dsimp only; split <;> rfl
theorem lensL_get (L : PL) (a : Nat) (h : a < L.length) : (L[a]).2.length ≤ lensL L := by
  have h1 := lensL_take L a h
  have h2 := lensL_le L (a + 1)
  omega
theorem Rb.noB {w : World} {b : Nat} {r u h : Int} (H : Rb w b r u h) : ∀ k ∈ [b], NoB w k := fun k hk => by
  obtain rfl : k = b := by simpa using hk
  exact .inr ⟨_, _, _, H, by decide⟩
theorem Rb.st {w w' : World} {b : Nat} {r u h : Int} (H : Rb w b r u h) {S : List Nat} (hs : Still S w w') (hb : b ∉ S) : Rb w' b r u h := HpB.st H hs hb

set_option maxRecDepth 100000 in
set_option maxHeartbeats 8000000 in
theorem rout_any (base g gb : Nat) (r u hav pk by_ : Int) (v0 : Value) (L : PL) (gone : Nat) (w : World) (h : RpV w base g (.pointer (some ⟨gb, 0, none⟩)) pk by_ v0 L gone) (hb : Rb w gb r u hav) (h0 : 0 ≤ hav) (h1 : hav ≤ 18446744073709551615) (hl : L.length ≤ 100000) (hs : lensL L ≤ 100000000) (hbase : base ≤ w.heap.size) :
    Calls Try.prog 32 #[.pointer (some ⟨g, 0, none⟩)] w (ROPost base g gb r u pk by_ v0 gone (routR (L.length + 1) L hav []) w) := by
  have hH := Lib.hid h
  have hB := Lib.hid hb
  have hgw := HpB.lt h.cells
  have hbw : gb < w.heap.size := HpB.lt hb
  have hgg : g ≠ gb := hp_ne h.cells hb (by decide)
  have hv0 := Lib.hid h.pq.lt'
  clear h hb
  generalize hR : routR (L.length + 1) L hav [] = R at *
  replace hR := Lib.hid hR
  go_enter Try.func32, Try.ntmps32
  go_upto_region 2 with (fail)
  go_loopg [3] L.length (fun m' v wx => ∃ (v' : Value) (L' o : PL) (so : Option Addr) (n co : Nat) (hv : Int), m' = L'.length ∧ v = .slice so n co ∧ co ≤ 9223372036854775807 ∧ n + L'.length = L.length ∧ Hid (routR (L'.length + 1) L' hv o = R) ∧ lensL L' ≤ lensL L ∧ Hid (PQ wx base (.slice so n co) n o) ∧ Hid (RpV wx base g (.pointer (some ⟨gb, 0, none⟩)) pk by_ v' L' gone) ∧ Hid (Rb wx gb r u hv) ∧ 0 ≤ hv ∧ hv ≤ 18446744073709551615 ∧ Hid (∀ k, (Value.slice so n co).ownBlock = some k → w.heap.size ≤ k) ∧ Hid (∀ k, v'.ownBlock = some k → v0.ownBlock = some k ∨ w.heap.size ≤ k) ∧ Hid (Apt v' (.slice so n co)) ∧ Hid (Still [g, gb] w wx))
  case atStart => exact ⟨v0, L, [], none, 0, 0, hav, rfl, rfl, by omega, by omega, hR, Nat.le_refl _, PQ.nil _ _, hH, hB, h0, h1, (fun k hk => by cases hk), (fun k hk => .inl hk), (fun k _ h2 => by cases h2), Still.refl _ _⟩
  case round =>
    clear hR hH hB h0 h1
    obtain ⟨v', L', o, so, n, co, hv, rfl, rfl, hco, hnl, hR, hs', O, H, HB, h0, h1, hf, hF, hA, TS⟩ := hrel
    obtain ⟨sv, cv, rfl, hvn, hvm⟩ := H.out.pq.len
    unfold maxLen at hvm
    have z3 : wr.cell? ⟨g, 3, none⟩ = some (.slice sv L'.length cv) := hp_cell H.out.cells 3
    have hlm : L'.length ≤ L.length := by omega
    have hIs := Lib.hid (firstR_is L')
    have hcx : ∀ i, i < L'.length → ∃ g1 o1, sv = some ⟨g1, o1, none⟩ ∧ wr.cell? ⟨g1, o1 + i * 2, none⟩ = some (.int .i64 (cl L' i)) := fun i hi => by
      obtain ⟨g1, o1, c1, hsl, _, _, _, _, hce⟩ := H.out.pq.form (by omega)
      simp only [Value.slice.injEq] at hsl
      obtain ⟨u1, y1, -, -⟩ := hce i hi
      exact ⟨g1, o1, hsl.1, by rw [y1, cl_get hi]⟩
    have hsu := Lib.hid (firstR_succ L')
    generalize hl' : L'.length = n' at *
    replace hl' := Lib.hid hl'
    replace hcx := Lib.hid hcx
    obtain ⟨wh, rfl⟩ : ∃ x, x = wr := ⟨_, rfl⟩
    go_upto_region 4 with (fail)
    replace z3 := Lib.hid z3
    go_loopg [4, 5] n' (fun m' s t wx => ∃ (m : Nat) (i : Int), m' = n' - m ∧ m ≤ n' ∧ s = .int .i64 (atI (firstR L' m)) ∧ t = .int .i64 i ∧ i + 1 + m = n' ∧ Hid (BW wh wx))
    case atStart => exact ⟨0, (n' : Int) - 1, by omega, by omega, rfl, rfl, by omega, BW.refl _⟩
    case round =>
      obtain ⟨m, i, rfl, hm, rfl, rfl, hi, B⟩ := hrel
      have z3 := B.out.cell z3.out
      by_cases hmn : m < n'
      · obtain ⟨q, rfl⟩ : ∃ q : Nat, i = (q : Int) := ⟨i.toNat, by omega⟩
        have hq : n' - (m + 1) = q := by omega
        have hst := hsu.out m
        rw [hq] at hst
        obtain ⟨g1, o1, rfl, y1⟩ := hcx.out q (by omega)
        have y1 := B.out.cell y1
        have d1 : decide ((0 : Int) ≤ (q : Int)) = true := by simp
        have q9 : IntKind.i64.wrap ((q : Int) - 1) = (q : Int) - 1 := IntWalk.i64_in _ (by omega)
        replace hq := Lib.hid hq
        cases hfm : firstR L' m with
        | none =>
          rw [hfm] at hst
          dsimp only at hst
          have e1 : atI none = -1 := rfl
          rw [e1]
          clear e1
          replace hst := Lib.hid hst
          replace hfm := Lib.hid hfm
          go_upto_region 6 with (fail)
          refine wp_region_gg [] [] [] (by kernel_rfl) ?_
          refine hoist [] [] (a1 := ?_) 0 rfl (by kernel_rfl) (.inl ⟨rfl, rfl⟩) rfl rfl rfl (fun x K hK => ?_) ?_
          rotate_left
          · go_big_quiet_op
            exact hK
          refine hoist [] [] (a1 := ?_) 1 rfl (by kernel_rfl) (.inl ⟨rfl, rfl⟩) rfl rfl rfl (fun x K hK => ?_) ?_
          rotate_left
          · go_big_quiet_op
            exact hK
          refine hoist [] [] (a1 := ?_) 2 rfl (by kernel_rfl) (.inl ⟨rfl, rfl⟩) rfl rfl rfl (fun x K hK => ?_) ?_
          rotate_left
          · go_big_quiet_op
            exact hK
          refine hoist_skip [] [] 3 rfl (by kernel_rfl) (.inl ⟨rfl, rfl⟩) rfl (a1 := ?_) ?_ ?_
          rotate_left
          · simp only [Act.put, List.setIfInBounds_toArray, List.set_cons_succ, List.set_cons_zero]; rfl
          refine hoist_skip [] [] 4 rfl (by kernel_rfl) (.inl ⟨rfl, rfl⟩) rfl (a1 := ?_) ?_ ?_
          rotate_left
          · simp only [Act.put, List.setIfInBounds_toArray, List.set_cons_succ, List.set_cons_zero]; rfl
          refine hoist_skip [] [] 5 rfl (by kernel_rfl) (.inl ⟨rfl, rfl⟩) rfl (a1 := ?_) ?_ ?_
          rotate_left
          · simp only [Act.put, List.setIfInBounds_toArray, List.set_cons_succ, List.set_cons_zero]; rfl
          refine hoist_skip [] [] 6 rfl (by kernel_rfl) (.inl ⟨rfl, rfl⟩) rfl (a1 := ?_) ?_ ?_
          rotate_left
          · simp only [Act.put, List.setIfInBounds_toArray, List.set_cons_succ, List.set_cons_zero]; rfl
          refine hoist_skip [] [] 7 rfl (by kernel_rfl) (.inl ⟨rfl, rfl⟩) rfl (a1 := ?_) ?_ ?_
          rotate_left
          · simp only [Act.put, List.setIfInBounds_toArray, List.set_cons_succ, List.set_cons_zero]; rfl
          refine hoist_skip [] [] 8 rfl (by kernel_rfl) (.inl ⟨rfl, rfl⟩) rfl (a1 := ?_) ?_ ?_
          rotate_left
          · simp only [Act.put, List.setIfInBounds_toArray, List.set_cons_succ, List.set_cons_zero]; rfl
          refine hoist_skip [] [] 9 rfl (by kernel_rfl) (.inl ⟨rfl, rfl⟩) rfl (a1 := ?_) ?_ ?_
          rotate_left
          · simp only [Act.put, List.setIfInBounds_toArray, List.set_cons_succ, List.set_cons_zero]; rfl
          refine hoist_skip [] [] 10 rfl (by kernel_rfl) (.inl ⟨rfl, rfl⟩) rfl (a1 := ?_) ?_ ?_
          rotate_left
          · simp only [Act.put, List.setIfInBounds_toArray, List.set_cons_succ, List.set_cons_zero]; rfl
          refine hoist_skip [] [] 11 rfl (by kernel_rfl) (.inl ⟨rfl, rfl⟩) rfl (a1 := ?_) ?_ ?_
          rotate_left
          · simp only [Act.put, List.setIfInBounds_toArray, List.set_cons_succ, List.set_cons_zero]; rfl
          refine hoist_skip [] [] 12 rfl (by kernel_rfl) (.inl ⟨rfl, rfl⟩) rfl (a1 := ?_) ?_ ?_
          rotate_left
          · simp only [Act.put, List.setIfInBounds_toArray, List.set_cons_succ, List.set_cons_zero]; rfl
          refine hoist_skip [] [] 13 rfl (by kernel_rfl) (.inl ⟨rfl, rfl⟩) rfl (a1 := ?_) ?_ ?_
          rotate_left
          · simp only [Act.put, List.setIfInBounds_toArray, List.set_cons_succ, List.set_cons_zero]; rfl
          refine hoist_skip [] [] 14 rfl (by kernel_rfl) (.inl ⟨rfl, rfl⟩) rfl (a1 := ?_) ?_ ?_
          rotate_left
          · simp only [Act.put, List.setIfInBounds_toArray, List.set_cons_succ, List.set_cons_zero]; rfl
          refine hoist_skip [] [] 15 rfl (by kernel_rfl) (.inl ⟨rfl, rfl⟩) rfl (a1 := ?_) ?_ ?_
          rotate_left
          · simp only [Act.put, List.setIfInBounds_toArray, List.set_cons_succ, List.set_cons_zero]; rfl
          refine hoist_skip [] [] 16 rfl (by kernel_rfl) (.inl ⟨rfl, rfl⟩) rfl (a1 := ?_) ?_ ?_
          rotate_left
          · simp only [Act.put, List.setIfInBounds_toArray, List.set_cons_succ, List.set_cons_zero]; rfl
          refine hoist_skip [] [] 17 rfl (by kernel_rfl) (.inl ⟨rfl, rfl⟩) rfl (a1 := ?_) ?_ ?_
          rotate_left
          · simp only [Act.put, List.setIfInBounds_toArray, List.set_cons_succ, List.set_cons_zero]; rfl
          refine hoist_skip [] [] 18 rfl (by kernel_rfl) (.inl ⟨rfl, rfl⟩) rfl (a1 := ?_) ?_ ?_
          rotate_left
          · simp only [Act.put, List.setIfInBounds_toArray, List.set_cons_succ, List.set_cons_zero]; rfl
          refine hoist_skip [] [] 19 rfl (by kernel_rfl) (.inl ⟨rfl, rfl⟩) rfl (a1 := ?_) ?_ ?_
          rotate_left
          · simp only [Act.put, List.setIfInBounds_toArray, List.set_cons_succ, List.set_cons_zero]; rfl
          refine hoist [] [] (a1 := ?_) 20 rfl (by kernel_rfl) (.inl ⟨rfl, rfl⟩) rfl rfl rfl (fun x K hK => ?_) ?_
          rotate_left
          · go_big_quiet_op
            exact hK
          refine done (by kernel_rfl) (fun xr => ?_)
          have BX := Lib.hid (B.out.trans xr.bw)
          clear d1 y1 z3
          go_wp2_with fail
          go_roundg (n' - (m + 1))
          case measure => omega
          case rel => exact ⟨m + 1, (q : Int) - 1, rfl, by omega, by rw [hst.out], rfl, by omega, BX⟩
        | some a =>
          rw [hfm] at hst
          dsimp only at hst
          have hIm := hIs.out m (by omega)
          rw [hfm] at hIm
          have ha : a < n' := by have := hIm.2.1; rw [hl'.out] at this; exact this
          obtain ⟨g2, o2, he, y2⟩ := hcx.out a ha
          simp only [Option.some.injEq, Addr.mk.injEq, and_true] at he
          obtain ⟨rfl, rfl⟩ := he
          have y2 := B.out.cell y2
          have e1 : atI (some a) = (a : Nat) := rfl
          have d3 : decide ((a : Int) < 0) = false := by simp
          rw [e1]
          clear e1 hIm
          by_cases hc2 : cl L' q ≤ cl L' a
          · rw [if_pos hc2] at hst
            have d4 : decide (cl L' q ≤ cl L' a) = true := by simpa using hc2
            replace hst := Lib.hid hst
            replace hfm := Lib.hid hfm
            replace hc2 := Lib.hid hc2
            go_upto_region 6 with (fail)
            have l3 := fun x : LaterS [] wr => x.cell z3 (by simp)
            have ly := fun x : LaterS [] wr => x.cell y1 (by simp)
            have la := fun x : LaterS [] wr => x.cell y2 (by simp)
            clear y1 y2 z3
            refine wp_region_gg [] [] [] (by kernel_rfl) ?_
            refine hoist [] [] (a1 := ?_) 0 rfl (by kernel_rfl) (.inl ⟨rfl, rfl⟩) rfl rfl rfl (fun x K hK => ?_) ?_
            rotate_left
            · go_big_quiet_op
              exact hK
            refine hoist [] [] (a1 := ?_) 1 rfl (by kernel_rfl) (.inl ⟨rfl, rfl⟩) rfl rfl rfl (fun x K hK => ?_) ?_
            rotate_left
            · go_big_quiet_op
              exact hK
            refine hoist [] [] (a1 := ?_) 2 rfl (by kernel_rfl) (.inl ⟨rfl, rfl⟩) rfl rfl rfl (fun x K hK => ?_) ?_
            rotate_left
            · go_big_quiet_op
              exact hK
            refine hoist [] [] (a1 := ?_) 3 rfl (by kernel_rfl) (.inl ⟨rfl, rfl⟩) rfl rfl rfl (fun x K hK => ?_) ?_
            rotate_left
            · go_big_quiet_op
              exact hK
            refine hoist [] [] (a1 := ?_) 4 rfl (by kernel_rfl) (.inl ⟨rfl, rfl⟩) rfl rfl rfl (fun x K hK => ?_) ?_
            rotate_left
            · go_big_quiet_op
              exact hK
            refine hoist [] [] (a1 := ?_) 5 rfl (by kernel_rfl) (.inl ⟨rfl, rfl⟩) rfl rfl rfl (fun x K hK => ?_) ?_
            rotate_left
            · go_big_quiet_op
              exact hK
            refine hoist [] [] (a1 := ?_) 6 rfl (by kernel_rfl) (.inl ⟨rfl, rfl⟩) rfl rfl rfl (fun x K hK => ?_) ?_
            rotate_left
            · go_big_quiet_op
              exact hK
            refine hoist [] [] (a1 := ?_) 7 rfl (by kernel_rfl) (.inl ⟨rfl, rfl⟩) rfl rfl rfl (fun x K hK => ?_) ?_
            rotate_left
            · go_big_quiet_op
              exact hK
            refine hoist [] [] (a1 := ?_) 8 rfl (by kernel_rfl) (.inl ⟨rfl, rfl⟩) rfl rfl rfl (fun x K hK => ?_) ?_
            rotate_left
            · go_big_quiet_op
              exact hK
            refine hoist [] [] (a1 := ?_) 9 rfl (by kernel_rfl) (.inl ⟨rfl, rfl⟩) rfl rfl rfl (fun x K hK => ?_) ?_
            rotate_left
            · go_big_quiet_op
              exact hK
            refine hoist [] [] (a1 := ?_) 10 rfl (by kernel_rfl) (.inl ⟨rfl, rfl⟩) rfl rfl rfl (fun x K hK => ?_) ?_
            rotate_left
            · go_big_quiet_op
              exact hK
            refine hoist [] [] (a1 := ?_) 11 rfl (by kernel_rfl) (.inl ⟨rfl, rfl⟩) rfl rfl rfl (fun x K hK => ?_) ?_
            rotate_left
            · go_big_quiet_op
              exact hK
            refine hoist [] [] (a1 := ?_) 12 rfl (by kernel_rfl) (.inl ⟨rfl, rfl⟩) rfl rfl rfl (fun x K hK => ?_) ?_
            rotate_left
            · go_big_quiet_op
              exact hK
            refine hoist [] [] (a1 := ?_) 13 rfl (by kernel_rfl) (.inl ⟨rfl, rfl⟩) rfl rfl rfl (fun x K hK => ?_) ?_
            rotate_left
            · go_big_quiet_op
              exact hK
            refine hoist [] [] (a1 := ?_) 14 rfl (by kernel_rfl) (.inl ⟨rfl, rfl⟩) rfl rfl rfl (fun x K hK => ?_) ?_
            rotate_left
            · go_big_quiet_op
              exact hK
            refine hoist [] [] (a1 := ?_) 15 rfl (by kernel_rfl) (.inl ⟨rfl, rfl⟩) rfl rfl rfl (fun x K hK => ?_) ?_
            rotate_left
            · go_big_quiet_op
              exact hK
            refine hoist [] [] (a1 := ?_) 16 rfl (by kernel_rfl) (.inl ⟨rfl, rfl⟩) rfl rfl rfl (fun x K hK => ?_) ?_
            rotate_left
            · go_big_quiet_op
              exact hK
            refine hoist [] [] (a1 := ?_) 17 rfl (by kernel_rfl) (.inl ⟨rfl, rfl⟩) rfl rfl rfl (fun x K hK => ?_) ?_
            rotate_left
            · go_big_quiet_op
              exact hK
            refine hoist [] [] (a1 := ?_) 18 rfl (by kernel_rfl) (.inl ⟨rfl, rfl⟩) rfl rfl rfl (fun x K hK => ?_) ?_
            rotate_left
            · go_big_quiet_op
              exact hK
            refine hoist [] [] (a1 := ?_) 19 rfl (by kernel_rfl) (.inl ⟨rfl, rfl⟩) rfl rfl rfl (fun x K hK => ?_) ?_
            rotate_left
            · go_big_quiet_op
              exact hK
            refine hoist [] [] (a1 := ?_) 20 rfl (by kernel_rfl) (.inl ⟨rfl, rfl⟩) rfl rfl rfl (fun x K hK => ?_) ?_
            rotate_left
            · go_big_quiet_op
              exact hK
            refine done (by kernel_rfl) (fun xr => ?_)
            have BX := Lib.hid (B.out.trans xr.bw)
            clear d1 d3 d4 l3 ly la
            go_wp2_with fail
            go_roundg (n' - (m + 1))
            case measure => omega
            case rel => exact ⟨m + 1, (q : Int) - 1, rfl, by omega, by rw [hst.out], rfl, by omega, BX⟩
          · rw [if_neg hc2] at hst
            have d4 : decide (cl L' q ≤ cl L' a) = false := by simpa using hc2
            replace hst := Lib.hid hst
            replace hfm := Lib.hid hfm
            replace hc2 := Lib.hid hc2
            go_upto_region 6 with (fail)
            have l3 := fun x : LaterS [] wr => x.cell z3 (by simp)
            have ly := fun x : LaterS [] wr => x.cell y1 (by simp)
            have la := fun x : LaterS [] wr => x.cell y2 (by simp)
            clear y1 y2 z3
            refine wp_region_gg [] [] [] (by kernel_rfl) ?_
            refine hoist [] [] (a1 := ?_) 0 rfl (by kernel_rfl) (.inl ⟨rfl, rfl⟩) rfl rfl rfl (fun x K hK => ?_) ?_
            rotate_left
            · go_big_quiet_op
              exact hK
            refine hoist [] [] (a1 := ?_) 1 rfl (by kernel_rfl) (.inl ⟨rfl, rfl⟩) rfl rfl rfl (fun x K hK => ?_) ?_
            rotate_left
            · go_big_quiet_op
              exact hK
            refine hoist [] [] (a1 := ?_) 2 rfl (by kernel_rfl) (.inl ⟨rfl, rfl⟩) rfl rfl rfl (fun x K hK => ?_) ?_
            rotate_left
            · go_big_quiet_op
              exact hK
            refine hoist [] [] (a1 := ?_) 3 rfl (by kernel_rfl) (.inl ⟨rfl, rfl⟩) rfl rfl rfl (fun x K hK => ?_) ?_
            rotate_left
            · go_big_quiet_op
              exact hK
            refine hoist [] [] (a1 := ?_) 4 rfl (by kernel_rfl) (.inl ⟨rfl, rfl⟩) rfl rfl rfl (fun x K hK => ?_) ?_
            rotate_left
            · go_big_quiet_op
              exact hK
            refine hoist [] [] (a1 := ?_) 5 rfl (by kernel_rfl) (.inl ⟨rfl, rfl⟩) rfl rfl rfl (fun x K hK => ?_) ?_
            rotate_left
            · go_big_quiet_op
              exact hK
            refine hoist [] [] (a1 := ?_) 6 rfl (by kernel_rfl) (.inl ⟨rfl, rfl⟩) rfl rfl rfl (fun x K hK => ?_) ?_
            rotate_left
            · go_big_quiet_op
              exact hK
            refine hoist [] [] (a1 := ?_) 7 rfl (by kernel_rfl) (.inl ⟨rfl, rfl⟩) rfl rfl rfl (fun x K hK => ?_) ?_
            rotate_left
            · go_big_quiet_op
              exact hK
            refine hoist [] [] (a1 := ?_) 8 rfl (by kernel_rfl) (.inl ⟨rfl, rfl⟩) rfl rfl rfl (fun x K hK => ?_) ?_
            rotate_left
            · go_big_quiet_op
              exact hK
            refine hoist [] [] (a1 := ?_) 9 rfl (by kernel_rfl) (.inl ⟨rfl, rfl⟩) rfl rfl rfl (fun x K hK => ?_) ?_
            rotate_left
            · go_big_quiet_op
              exact hK
            refine hoist [] [] (a1 := ?_) 10 rfl (by kernel_rfl) (.inl ⟨rfl, rfl⟩) rfl rfl rfl (fun x K hK => ?_) ?_
            rotate_left
            · go_big_quiet_op
              exact hK
            refine hoist [] [] (a1 := ?_) 11 rfl (by kernel_rfl) (.inl ⟨rfl, rfl⟩) rfl rfl rfl (fun x K hK => ?_) ?_
            rotate_left
            · go_big_quiet_op
              exact hK
            refine hoist [] [] (a1 := ?_) 12 rfl (by kernel_rfl) (.inl ⟨rfl, rfl⟩) rfl rfl rfl (fun x K hK => ?_) ?_
            rotate_left
            · go_big_quiet_op
              exact hK
            refine hoist [] [] (a1 := ?_) 13 rfl (by kernel_rfl) (.inl ⟨rfl, rfl⟩) rfl rfl rfl (fun x K hK => ?_) ?_
            rotate_left
            · go_big_quiet_op
              exact hK
            refine hoist [] [] (a1 := ?_) 14 rfl (by kernel_rfl) (.inl ⟨rfl, rfl⟩) rfl rfl rfl (fun x K hK => ?_) ?_
            rotate_left
            · go_big_quiet_op
              exact hK
            refine hoist [] [] (a1 := ?_) 15 rfl (by kernel_rfl) (.inl ⟨rfl, rfl⟩) rfl rfl rfl (fun x K hK => ?_) ?_
            rotate_left
            · go_big_quiet_op
              exact hK
            refine hoist [] [] (a1 := ?_) 16 rfl (by kernel_rfl) (.inl ⟨rfl, rfl⟩) rfl rfl rfl (fun x K hK => ?_) ?_
            rotate_left
            · go_big_quiet_op
              exact hK
            refine hoist [] [] (a1 := ?_) 17 rfl (by kernel_rfl) (.inl ⟨rfl, rfl⟩) rfl rfl rfl (fun x K hK => ?_) ?_
            rotate_left
            · go_big_quiet_op
              exact hK
            refine hoist [] [] (a1 := ?_) 18 rfl (by kernel_rfl) (.inl ⟨rfl, rfl⟩) rfl rfl rfl (fun x K hK => ?_) ?_
            rotate_left
            · go_big_quiet_op
              exact hK
            refine hoist [] [] (a1 := ?_) 19 rfl (by kernel_rfl) (.inl ⟨rfl, rfl⟩) rfl rfl rfl (fun x K hK => ?_) ?_
            rotate_left
            · go_big_quiet_op
              exact hK
            refine hoist [] [] (a1 := ?_) 20 rfl (by kernel_rfl) (.inl ⟨rfl, rfl⟩) rfl rfl rfl (fun x K hK => ?_) ?_
            rotate_left
            · go_big_quiet_op
              exact hK
            refine done (by kernel_rfl) (fun xr => ?_)
            have BX := Lib.hid (B.out.trans xr.bw)
            clear d1 d3 d4 l3 ly la
            go_wp2_with fail
            go_roundg (n' - (m + 1))
            case measure => omega
            case rel => exact ⟨m + 1, (q : Int) - 1, rfl, by omega, by rw [hst.out], rfl, by omega, BX⟩
      · obtain rfl : m = n' := by omega
        obtain rfl : i = -1 := by omega
        have d1 : decide ((0 : Int) ≤ -1) = false := by decide
        have HW := Lib.hid (H.out.bw B.out)
        have HBW := Lib.hid (HB.out.bw B.out)
        have OW := Lib.hid (O.out.bw B.out)
        have TW := Lib.hid (TS.out.trans (B.out.still [g, gb]))
        cases hfm : firstR L' m with
        | none =>
          have hR2 : R = (o, L', hv) := by
            rw [← hR.out]
            unfold routR
            rw [hl'.out, hfm]
          have e1 : atI none = -1 := rfl
          rw [e1]
          clear e1
          replace hR2 := Lib.hid hR2
          replace hfm := Lib.hid hfm
          go_upto_region 8 with (fail)
          refine wp_region_gg [] [] [] (by kernel_rfl) ?_
          refine hoist [] [] (a1 := ?_) 0 rfl (by kernel_rfl) (.inl ⟨rfl, rfl⟩) rfl rfl rfl (fun x K hK => ?_) ?_
          rotate_left
          · go_big_quiet_op
            exact hK
          refine hoist [] [] (a1 := ?_) 1 rfl (by kernel_rfl) (.inl ⟨rfl, rfl⟩) rfl rfl rfl (fun x K hK => ?_) ?_
          rotate_left
          · go_big_quiet_op
            exact hK
          refine hoist [] [] (a1 := ?_) 2 rfl (by kernel_rfl) (.inl ⟨rfl, rfl⟩) rfl rfl rfl (fun x K hK => ?_) ?_
          rotate_left
          · go_big_quiet_op
            exact hK
          refine hoist_skip [] [] 3 rfl (by kernel_rfl) (.inl ⟨rfl, rfl⟩) rfl (a1 := ?_) ?_ ?_
          rotate_left
          · simp only [Act.put, List.setIfInBounds_toArray, List.set_cons_succ, List.set_cons_zero]; rfl
          refine hoist_skip [] [] 4 rfl (by kernel_rfl) (.inl ⟨rfl, rfl⟩) rfl (a1 := ?_) ?_ ?_
          rotate_left
          · simp only [Act.put, List.setIfInBounds_toArray, List.set_cons_succ, List.set_cons_zero]; rfl
          refine hoist_skip [] [] 5 rfl (by kernel_rfl) (.inl ⟨rfl, rfl⟩) rfl (a1 := ?_) ?_ ?_
          rotate_left
          · simp only [Act.put, List.setIfInBounds_toArray, List.set_cons_succ, List.set_cons_zero]; rfl
          refine hoist_skip [] [] 6 rfl (by kernel_rfl) (.inl ⟨rfl, rfl⟩) rfl (a1 := ?_) ?_ ?_
          rotate_left
          · simp only [Act.put, List.setIfInBounds_toArray, List.set_cons_succ, List.set_cons_zero]; rfl
          refine hoist_skip [] [] 7 rfl (by kernel_rfl) (.inl ⟨rfl, rfl⟩) rfl (a1 := ?_) ?_ ?_
          rotate_left
          · simp only [Act.put, List.setIfInBounds_toArray, List.set_cons_succ, List.set_cons_zero]; rfl
          refine hoist_skip [] [] 8 rfl (by kernel_rfl) (.inl ⟨rfl, rfl⟩) rfl (a1 := ?_) ?_ ?_
          rotate_left
          · simp only [Act.put, List.setIfInBounds_toArray, List.set_cons_succ, List.set_cons_zero]; rfl
          refine hoist_skip [] [] 9 rfl (by kernel_rfl) (.inl ⟨rfl, rfl⟩) rfl (a1 := ?_) ?_ ?_
          rotate_left
          · simp only [Act.put, List.setIfInBounds_toArray, List.set_cons_succ, List.set_cons_zero]; rfl
          refine hoist_skip [] [] 10 rfl (by kernel_rfl) (.inl ⟨rfl, rfl⟩) rfl (a1 := ?_) ?_ ?_
          rotate_left
          · simp only [Act.put, List.setIfInBounds_toArray, List.set_cons_succ, List.set_cons_zero]; rfl
          refine hoist_skip [] [] 11 rfl (by kernel_rfl) (.inl ⟨rfl, rfl⟩) rfl (a1 := ?_) ?_ ?_
          rotate_left
          · simp only [Act.put, List.setIfInBounds_toArray, List.set_cons_succ, List.set_cons_zero]; rfl
          refine hoist_skip [] [] 12 rfl (by kernel_rfl) (.inl ⟨rfl, rfl⟩) rfl (a1 := ?_) ?_ ?_
          rotate_left
          · simp only [Act.put, List.setIfInBounds_toArray, List.set_cons_succ, List.set_cons_zero]; rfl
          refine hoist_skip [] [] 13 rfl (by kernel_rfl) (.inl ⟨rfl, rfl⟩) rfl (a1 := ?_) ?_ ?_
          rotate_left
          · simp only [Act.put, List.setIfInBounds_toArray, List.set_cons_succ, List.set_cons_zero]; rfl
          refine hoist_skip [] [] 14 rfl (by kernel_rfl) (.inl ⟨rfl, rfl⟩) rfl (a1 := ?_) ?_ ?_
          rotate_left
          · simp only [Act.put, List.setIfInBounds_toArray, List.set_cons_succ, List.set_cons_zero]; rfl
          refine hoist_skip [] [] 15 rfl (by kernel_rfl) (.inl ⟨rfl, rfl⟩) rfl (a1 := ?_) ?_ ?_
          rotate_left
          · simp only [Act.put, List.setIfInBounds_toArray, List.set_cons_succ, List.set_cons_zero]; rfl
          refine hoist_skip [] [] 16 rfl (by kernel_rfl) (.inl ⟨rfl, rfl⟩) rfl (a1 := ?_) ?_ ?_
          rotate_left
          · simp only [Act.put, List.setIfInBounds_toArray, List.set_cons_succ, List.set_cons_zero]; rfl
          refine hoist_skip [] [] 17 rfl (by kernel_rfl) (.inl ⟨rfl, rfl⟩) rfl (a1 := ?_) ?_ ?_
          rotate_left
          · simp only [Act.put, List.setIfInBounds_toArray, List.set_cons_succ, List.set_cons_zero]; rfl
          refine hoist_skip [] [] 18 rfl (by kernel_rfl) (.inl ⟨rfl, rfl⟩) rfl (a1 := ?_) ?_ ?_
          rotate_left
          · simp only [Act.put, List.setIfInBounds_toArray, List.set_cons_succ, List.set_cons_zero]; rfl
          refine hoist [] [] (a1 := ?_) 19 rfl (by kernel_rfl) (.inl ⟨rfl, rfl⟩) rfl rfl rfl (fun x K hK => ?_) ?_
          rotate_left
          · go_big_quiet_op
            exact hK
          refine done (by kernel_rfl) (fun xr => ?_)
          go_wp2_with fail
          go_ret
          refine ⟨_, rfl, ?_⟩
          rw [hR2.out]
          exact ⟨(OW.out.bw xr.bw).full, ⟨_, HW.out.bw xr.bw, hF.out⟩, HBW.out.bw xr.bw, hf.out, TW.out.trans (xr.bw.still _)⟩
        | some a =>
          have hIm := hIs.out m (by omega)
          rw [hfm] at hIm
          have ha : a < m := by have := hIm.2.1; rw [hl'.out] at this; exact this
          have haL : a < L'.length := by rw [hl'.out]; exact ha
          have e1 : atI (some a) = (a : Nat) := rfl
          have d3 : decide ((a : Int) < 0) = false := by simp
          rw [e1]
          clear e1 hIm hcx
          obtain ⟨g1, o1, c1, hsl, _, _, _, _, hce⟩ := HW.out.pq.form (by omega)
          simp only [Value.slice.injEq] at hsl
          obtain ⟨rfl, -, rfl⟩ := hsl
          obtain ⟨u1, y1, y2, y3⟩ := hce a haL
          rw [← Nat.add_assoc] at y2
          obtain ⟨su, cu, rfl, _, _⟩ := y3.len
          have hgd : L'.getD a (0, []) = L'[a] := by rw [List.getD_eq_getElem?_getD, List.getElem?_eq_getElem haL]; rfl
          have hR2 : (if hv < (L'[a]).2.length then (o, L', hv) else routR m (L'.eraseIdx a) (hv - (L'[a]).2.length) (o ++ [L'[a]])) = R := by
            rw [← hR.out]
            conv => rhs; unfold routR
            rw [hl'.out, hfm]
            dsimp only
            rw [hgd]
          have hln : (L'[a]).2.length ≤ lensL L' := lensL_get L' a haL
          have hel : (L'.eraseIdx a).length + 1 = L'.length := by rw [List.length_eraseIdx, if_pos haL]; omega
          have hes := lensL_erase L' a
          clear hce hgd
          generalize hcl : L'[a] = p at *
          obtain ⟨c, x⟩ := p
          dsimp only at y1 y2 y3 hR2 hln
          generalize hbl : x.length = bl at *
          have q1 : IntKind.u64.wrap (bl : Int) = (bl : Int) := IntWalk.u64_in _ (by omega)
          replace hbl := Lib.hid hbl
          replace y3 := Lib.hid y3
          replace hel := Lib.hid hel
          obtain ⟨wy, rfl⟩ : ∃ y, y = wr := ⟨_, rfl⟩
          have z0 : wy.cell? ⟨g, 0, none⟩ = some (.pointer (some ⟨gb, 0, none⟩)) := hp_cell HW.out.cells 0
          have l0 := fun x : LaterS [] wy => x.cell z0 (by simp)
          have l3 := fun x : LaterS [] wy => x.cell z3 (by simp)
          have l2 := fun x : LaterS [] wy => x.cell y2 (by simp)
          clear z0 z3 y1 y2
          by_cases hc : hv < (bl : Int)
          · have hR3 : R = (o, L', hv) := by rw [← hR2, if_pos hc]
            replace hR3 := Lib.hid hR3
            replace hR2 := Lib.hid hR2
            replace hc := Lib.hid hc
            go_upto_region 8 with (fail)
            refine wp_region_gg [] [] [] (by kernel_rfl) ?_
            refine hoist [] [] (a1 := ?_) 0 rfl (by kernel_rfl) (.inl ⟨rfl, rfl⟩) rfl rfl rfl (fun x K hK => ?_) ?_
            rotate_left
            · go_big_quiet_op
              exact hK
            refine hoist [] [] (a1 := ?_) 1 rfl (by kernel_rfl) (.inl ⟨rfl, rfl⟩) rfl rfl rfl (fun x K hK => ?_) ?_
            rotate_left
            · go_big_quiet_op
              exact hK
            refine hoist [] [] (a1 := ?_) 2 rfl (by kernel_rfl) (.inl ⟨rfl, rfl⟩) rfl rfl rfl (fun x K hK => ?_) ?_
            rotate_left
            · go_big_quiet_op
              exact hK
            refine hoist [] [] (a1 := ?_) 3 rfl (by kernel_rfl) (.inl ⟨rfl, rfl⟩) rfl rfl rfl (fun x K hK => ?_) ?_
            rotate_left
            · go_big_quiet_op
              exact hK
            refine hoist [] [] (a1 := ?_) 4 rfl (by kernel_rfl) (.inl ⟨rfl, rfl⟩) rfl rfl rfl (fun x K hK => ?_) ?_
            rotate_left
            · go_big_quiet_op
              exact hK
            refine hoist [] [] (a1 := ?_) 5 rfl (by kernel_rfl) (.inl ⟨rfl, rfl⟩) rfl rfl rfl (fun x K hK => ?_) ?_
            rotate_left
            · go_big_quiet_op
              exact hK
            refine hoist [] [] (a1 := ?_) 6 rfl (by kernel_rfl) (.inl ⟨rfl, rfl⟩) rfl rfl rfl (fun x K hK => ?_) ?_
            rotate_left
            · go_big_quiet_op
              exact hK
            refine hoist [] [] (a1 := ?_) 7 rfl (by kernel_rfl) (.inl ⟨rfl, rfl⟩) rfl rfl rfl (fun x K hK => ?_) ?_
            rotate_left
            · go_big_quiet_op
              exact hK
            refine hoist [] [] (a1 := ?_) 8 rfl (by kernel_rfl) (.inl ⟨rfl, rfl⟩) rfl rfl rfl (fun x K hK => ?_) ?_
            rotate_left
            · go_big_quiet_op
              exact hK
            refine hoist [] [] (a1 := ?_) 9 rfl (by kernel_rfl) (.inl ⟨rfl, rfl⟩) rfl rfl rfl (fun x K hK => ?_) ?_
            rotate_left
            · go_big_quiet_op
              exact hK
            refine hoist [] [] (a1 := ?_) 10 rfl (by kernel_rfl) (.inl ⟨rfl, rfl⟩) rfl rfl rfl (fun x K hK => ?_) ?_
            rotate_left
            · go_big_quiet_op
              exact hK
            refine hoist [] [] (a1 := ?_) 11 rfl (by kernel_rfl) (.inl ⟨rfl, rfl⟩) rfl rfl rfl (fun x K hK => ?_) ?_
            rotate_left
            · go_big_quiet_op
              exact hK
            refine hoist [] [] (a1 := ?_) 12 rfl (by kernel_rfl) (.inl ⟨rfl, rfl⟩) rfl rfl rfl (fun x K hK => ?_) ?_
            rotate_left
            · go_big_quiet_op
              exact hK
            refine hoist [] [] (a1 := ?_) 13 rfl (by kernel_rfl) (.inl ⟨rfl, rfl⟩) rfl rfl rfl (fun x K hK => ?_) ?_
            rotate_left
            · go_big_quiet_op
              exact hK
            refine hoist [] [] (a1 := ?_) 14 rfl (by kernel_rfl) (.inl ⟨rfl, rfl⟩) rfl rfl rfl (fun x K hK => ?_) ?_
            rotate_left
            · go_big_quiet_op
              exact hK
            refine hoist [] [] (a1 := ?_) 15 rfl (by kernel_rfl) (.inl ⟨rfl, rfl⟩) rfl rfl rfl (fun x K hK => ?_) ?_
            rotate_left
            · go_big_quiet_op
              exact hK
            refine hoist [] [] (a1 := ?_) 16 rfl (by kernel_rfl) (.inl ⟨rfl, rfl⟩) rfl rfl rfl (fun x K hK => ?_) ?_
            rotate_left
            · go_big_quiet_op
              exact hK
            refine effect 17 rfl (by kernel_rfl) (by kernel_rfl) rfl (fun x17 K hK => ?_)
            go_simp
            refine Calls.mono (rtake_no gb r u hv (bl : Int) x17.now (HBW.out.bw x17.bw) hc.out) ?_
            rintro e wa ⟨rfl, rfl⟩
            refine hK _ _ (Still.refl _ _) ?_
            clear hK K
            have BX := Lib.hid x17.bw
            try simp only [Act.put, List.setIfInBounds_toArray, List.set_cons_succ, List.set_cons_zero]
            refine hoist [] [] (a1 := ?_) 18 rfl (by kernel_rfl) (.inl ⟨rfl, rfl⟩) rfl rfl rfl (fun x K hK => ?_) ?_
            rotate_left
            · go_big_quiet_op
              exact hK
            refine hoist [] [] (a1 := ?_) 19 rfl (by kernel_rfl) (.inl ⟨rfl, rfl⟩) rfl rfl rfl (fun x K hK => ?_) ?_
            rotate_left
            · go_big_quiet_op
              exact hK
            refine done (by kernel_rfl) (fun xr => ?_)
            have BY := BX.out.trans xr.bw
            replace BY := Lib.hid BY
            clear l0 l3 l2 d3 q1
            go_wp2_with fail
            go_ret
            refine ⟨_, rfl, ?_⟩
            rw [hR3.out]
            exact ⟨(OW.out.bw BY.out).full, ⟨_, HW.out.bw BY.out, hF.out⟩, HBW.out.bw BY.out, hf.out, TW.out.trans (BY.out.still _)⟩
          have hR3 : routR m (L'.eraseIdx a) (hv - (bl : Nat)) (o ++ [(c, x)]) = R := by rw [← hR2, if_neg hc]
          replace hR3 := Lib.hid hR3
          replace hR2 := Lib.hid hR2
          have hc' : (bl : Int) ≤ hv := by omega
          go_upto_region 8 with (fail)
          refine wp_region_gg ([gb]) [17] [] (by kernel_rfl) ?_
          refine hoist [] [17] (a1 := ?_) 0 rfl (by kernel_rfl) (.inl ⟨rfl, rfl⟩) rfl rfl rfl (fun x K hK => ?_) ?_
          rotate_left
          · go_big_quiet_op
            exact hK
          refine hoist [] [17] (a1 := ?_) 1 rfl (by kernel_rfl) (.inl ⟨rfl, rfl⟩) rfl rfl rfl (fun x K hK => ?_) ?_
          rotate_left
          · go_big_quiet_op
            exact hK
          refine hoist [] [17] (a1 := ?_) 2 rfl (by kernel_rfl) (.inl ⟨rfl, rfl⟩) rfl rfl rfl (fun x K hK => ?_) ?_
          rotate_left
          · go_big_quiet_op
            exact hK
          refine hoist [] [17] (a1 := ?_) 3 rfl (by kernel_rfl) (.inl ⟨rfl, rfl⟩) rfl rfl rfl (fun x K hK => ?_) ?_
          rotate_left
          · go_big_quiet_op
            exact hK
          refine hoist [] [17] (a1 := ?_) 4 rfl (by kernel_rfl) (.inl ⟨rfl, rfl⟩) rfl rfl rfl (fun x K hK => ?_) ?_
          rotate_left
          · go_big_quiet_op
            exact hK
          refine hoist [] [17] (a1 := ?_) 5 rfl (by kernel_rfl) (.inl ⟨rfl, rfl⟩) rfl rfl rfl (fun x K hK => ?_) ?_
          rotate_left
          · go_big_quiet_op
            exact hK
          refine hoist [] [17] (a1 := ?_) 6 rfl (by kernel_rfl) (.inl ⟨rfl, rfl⟩) rfl rfl rfl (fun x K hK => ?_) ?_
          rotate_left
          · go_big_quiet_op
            exact hK
          refine hoist [] [17] (a1 := ?_) 7 rfl (by kernel_rfl) (.inl ⟨rfl, rfl⟩) rfl rfl rfl (fun x K hK => ?_) ?_
          rotate_left
          · go_big_quiet_op
            exact hK
          refine hoist [] [17] (a1 := ?_) 8 rfl (by kernel_rfl) (.inl ⟨rfl, rfl⟩) rfl rfl rfl (fun x K hK => ?_) ?_
          rotate_left
          · go_big_quiet_op
            exact hK
          refine hoist [] [17] (a1 := ?_) 9 rfl (by kernel_rfl) (.inl ⟨rfl, rfl⟩) rfl rfl rfl (fun x K hK => ?_) ?_
          rotate_left
          · go_big_quiet_op
            exact hK
          refine hoist [] [17] (a1 := ?_) 10 rfl (by kernel_rfl) (.inl ⟨rfl, rfl⟩) rfl rfl rfl (fun x K hK => ?_) ?_
          rotate_left
          · go_big_quiet_op
            exact hK
          refine hoist [] [17] (a1 := ?_) 11 rfl (by kernel_rfl) (.inl ⟨rfl, rfl⟩) rfl rfl rfl (fun x K hK => ?_) ?_
          rotate_left
          · go_big_quiet_op
            exact hK
          refine hoist [] [17] (a1 := ?_) 12 rfl (by kernel_rfl) (.inl ⟨rfl, rfl⟩) rfl rfl rfl (fun x K hK => ?_) ?_
          rotate_left
          · go_big_quiet_op
            exact hK
          refine hoist [] [17] (a1 := ?_) 13 rfl (by kernel_rfl) (.inl ⟨rfl, rfl⟩) rfl rfl rfl (fun x K hK => ?_) ?_
          rotate_left
          · go_big_quiet_op
            exact hK
          refine hoist [] [17] (a1 := ?_) 14 rfl (by kernel_rfl) (.inl ⟨rfl, rfl⟩) rfl rfl rfl (fun x K hK => ?_) ?_
          rotate_left
          · go_big_quiet_op
            exact hK
          refine hoist [] [17] (a1 := ?_) 15 rfl (by kernel_rfl) (.inl ⟨rfl, rfl⟩) rfl rfl rfl (fun x K hK => ?_) ?_
          rotate_left
          · go_big_quiet_op
            exact hK
          refine hoist [] [17] (a1 := ?_) 16 rfl (by kernel_rfl) (.inl ⟨rfl, rfl⟩) rfl rfl rfl (fun x K hK => ?_) ?_
          rotate_left
          · go_big_quiet_op
            exact hK
          refine effect 17 rfl (by kernel_rfl) (by kernel_rfl) rfl (fun x17 K hK => ?_)
          go_simp
          refine Calls.mono (rtake_yes gb r u hv (bl : Int) x17.now (HBW.out.bw x17.bw) hc' (by omega) h1) ?_
          rintro e wa ⟨rfl, rfl⟩
          have TT := still_setCP x17.now gb 2 (.int .u64 (hv - (bl : Int)))
          refine hK _ _ TT ?_
          clear hK K l0 l3 l2
          have hB7 := HBW.out.bw x17.bw
          have H7 := Lib.hid ((HW.out.bw x17.bw).still TT hB7.noB (by simpa using hgg) (fun k hk => by have := (HW.out.bw x17.bw).pq.ne hB7 (by decide) k hk; simpa using this))
          have O7 := Lib.hid ((OW.out.bw x17.bw).still TT hB7.noB (fun k hk => by have := (OW.out.bw x17.bw).ne hB7 (by decide) k hk; simpa using this))
          have T7 := Lib.hid ((TW.out.trans (x17.bw.still [g, gb])).own3 TT (by simp))
          have HB7 := Lib.hid (hB7.set (hv - (bl : Int)))
          clear hB7 TT
          generalize x17.now.setCell ⟨gb, 2, none⟩ (.int .u64 (hv - (bl : Int))) = w3 at *
          try simp only [Act.put, List.setIfInBounds_toArray, List.set_cons_succ, List.set_cons_zero]
          refine hoist [] [17] (a1 := ?_) 18 rfl (by kernel_rfl) (.inl ⟨rfl, rfl⟩) rfl rfl rfl (fun x K hK => ?_) ?_
          rotate_left
          · go_big_quiet_op
            exact hK
          refine hoist [] [17] (a1 := ?_) 19 rfl (by kernel_rfl) (.inl ⟨rfl, rfl⟩) rfl rfl rfl (fun x K hK => ?_) ?_
          rotate_left
          · go_big_quiet_op
            exact hK
          refine done (by kernel_rfl) (fun xr => ?_)
          have H8 := Lib.hid (H7.out.bw xr.bw)
          have O8 := Lib.hid (O7.out.bw xr.bw)
          have T8 := Lib.hid (T7.out.trans (xr.bw.still [g, gb]))
          have HB8 := Lib.hid (HB7.out.bw xr.bw)
          clear H7 O7 T7 HB7 HW OW TW HBW H O HB TS d3 q1
          generalize xr.now = w8 at *
          have z3 : w8.cell? ⟨g, 3, none⟩ = some (.slice (some ⟨g1, o1, none⟩) m cv) := hp_cell H8.out.cells 3
          obtain ⟨g2, o2, c2, hsl, _, _, _, _, hce⟩ := H8.out.pq.form (by omega)
          simp only [Value.slice.injEq, Option.some.injEq, Addr.mk.injEq, and_true] at hsl
          obtain ⟨⟨rfl, rfl⟩, -, rfl⟩ := hsl
          obtain ⟨u1, y1, y2, y3⟩ := hce a haL
          rw [hcl] at y1 y3
          rw [← Nat.add_assoc] at y2
          dsimp only at y1 y3
          rw [hbl.out] at y3
          obtain ⟨su2, cu2, rfl, _, _⟩ := y3.len
          have BA : BW w8 (w8.alloc (.cells #[.int .i64 c, .slice su2 bl cu2] 43)) := (BW.refl _).alloc
          have L9 := Lib.hid (Sls.pace w8 c (.slice su2 bl cu2))
          have H9 := Lib.hid (H8.out.bw BA)
          have O9 := Lib.hid (O8.out.bw BA)
          have T9 := Lib.hid (T8.out.trans (BA.still [g, gb]))
          have HB9 := Lib.hid (HB8.out.bw BA)
          have U9 := y3.bw BA
          have U9' : OB (w8.alloc (.cells #[.int .i64 c, .slice su2 bl cu2] 43)) base 5 (.slice su2 bl cu2) x.length x := by rw [hbl.out]; exact U9
          have hz9 := Nat.le_trans hbase T9.out.size
          replace U9' := Lib.hid U9'
          replace hcl := Lib.hid hcl
          clear U9 y3 hce BA H8 O8 T8 HB8
          go_wp2_with (at_builtin; go_must (refine wpList_apPc rfl _ _ rfl base (.slice so n co) n o rfl O9.out _ rfl c (.slice su2 bl cu2) x L9.out U9'.out (by omega) hz9 ?_; intro s6 c6 w6 hc6 hm6 O6 T6 hb6 G6; unfold maxLen at hm6; replace O6 := Lib.hid O6; replace T6 := Lib.hid T6; replace G6 := Lib.hid G6; clear hb6))
          have hgf : ∀ k, (Value.slice so n co).ownBlock = some k → k ≠ g ∧ k ≠ gb := fun k hk => by have := hf.out k hk; omega
          have H10 := Lib.hid (H9.out.still T6.out O9.out.noB (fun hm => (hgf g (by simpa using hm)).1 rfl) (fun k h2 hm => hA.out k h2 (by simpa using hm)))
          have HB10 := Lib.hid (HB9.out.st T6.out (fun hm => (hgf gb (by simpa using hm)).2 rfl))
          have TS10 := Lib.hid (T9.out.own3 T6.out (fun k hk => .inr (hf.out k (by simpa using hk))))
          have hf6 : ∀ k, (Value.slice s6 (n + 1) c6).ownBlock = some k → w.heap.size ≤ k := fun k h2 => by
            rcases G6.out k h2 with h3 | h3
            · exact hf.out k h3
            · exact Nat.le_trans T9.out.size h3
          have cD := Lib.hid (rdrop_any base g (.pointer (some ⟨gb, 0, none⟩)) pk by_ _ L' gone a w6 H10.out (by have := hl'.out; omega) (Nat.le_trans hbase TS10.out.size) haL)
          have hml : (L'.eraseIdx a).length < m := by have := hel.out; have := hl'.out; omega
          have hnl2 : n + 1 + (L'.eraseIdx a).length = L.length := by have := hel.out; have := hl'.out; omega
          have hfu : (L'.eraseIdx a).length + 1 = m := by have := hel.out; have := hl'.out; omega
          rw [← hfu] at hR3
          replace hf6 := Lib.hid hf6
          replace hfu := Lib.hid hfu
          replace hgf := Lib.hid hgf
          clear H9 O9 T9 HB9 L9 U9' y1 y2 z3 hz9
          go_wp2_with fail
          refine Calls.mono cD.out ?_
          rintro e w5 ⟨rfl, ⟨v5, H11, hF5⟩, T11⟩
          have O11 := Lib.hid (O6.out.still T11 H10.out.noB (fun k hk => by have := O6.out.ne H10.out.cells (by decide) k hk; simpa using this))
          have HB11 := Lib.hid (HB10.out.st T11 (by simpa using (fun e => hgg e.symm)))
          have TS11 := Lib.hid (TS10.out.own3 T11 (by simp))
          have hF11 : ∀ k, v5.ownBlock = some k → v0.ownBlock = some k ∨ w.heap.size ≤ k := fun k hk => .inr (Nat.le_trans TS10.out.size (hF5 k hk))
          have hA11 : Apt v5 (.slice s6 (n + 1) c6) := fun k h2 h3 => by have := hF5 k h2; have := O6.out.lt' k h3; omega
          replace H11 := Lib.hid H11
          replace hF11 := Lib.hid hF11
          replace hA11 := Lib.hid hA11
          clear cD T11 hF5 O6 H10 HB10 TS10 T6 G6
          dsimp only
          go_wp2_with fail
          go_roundg (L'.eraseIdx a).length
          case measure => omega
          case rel => exact ⟨v5, L'.eraseIdx a, o ++ [(c, x)], s6, n + 1, c6, hv - (bl : Nat), rfl, rfl, hm6, hnl2, hR3, by omega, O11, H11, HB11, by omega, by omega, hf6, hF11, hA11, TS11⟩
end Go.Proofs.Ytgiajnfmjpdodaa
