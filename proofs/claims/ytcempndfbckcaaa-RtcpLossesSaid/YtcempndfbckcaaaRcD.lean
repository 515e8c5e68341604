/- rtcp's body: reports of a count. No condition but the sizes'. -/
import Derived.Test.YtcempndfbckcaaaRcC
import Derived.Test.YtcempndfbckcaaaEl
namespace Go.Proofs.Ytcempndfbckcaaa
open Go.RowKit

def sgn24 (x : Nat) : Int := if 8388608 ≤ x then (x : Int) - 16777216 else x
/-- The cells of a report of so many bytes. -/
def repC (d : List Nat) : List Value :=
  [.int .u32 (numB (d.take 4) : Nat), .int .u8 (numB ((d.drop 4).take 1) : Nat), .int .i32 (sgn24 (numB (((d.drop 4).drop 1).take 3))), .int .u32 (numB ((((d.drop 4).drop 1).drop 3).take 4) : Nat), .int .u32 (numB (((((d.drop 4).drop 1).drop 3).drop 4).take 4) : Nat),
   .int .u32 (numB ((((((d.drop 4).drop 1).drop 3).drop 4).drop 4).take 4) : Nat), .int .u32 (numB (((((((d.drop 4).drop 1).drop 3).drop 4).drop 4).drop 4).take 4) : Nat)]
def RP : Elt (List Nat) where
  size := 7
  R := fun _ _ d c => c = repC d
  Ok := fun _ _ => True
  pos := by decide
  len := fun e => by rw [e]; rfl
  one := fun e u hu => by
    rw [e] at hu
    simp only [repC, List.mem_cons, List.not_mem_nil, or_false] at hu
    rcases hu with rfl | rfl | rfl | rfl | rfl | rfl | rfl <;> rfl
  bw := fun e _ => e
  up := fun e _ => e
  still := fun e _ _ => e
  old := fun e _ _ => e
theorem slRP : SlTy Try.prog 107 187 7 28 := SlTy.mk' Try.underlying107 (by kernel_rfl) (by decide)
def repsN (l : List Nat) (k : Nat) : List (List Nat) := (List.range k).map fun j => l.drop (24 * j)
theorem repsN_succ (l : List Nat) (k : Nat) : repsN l (k + 1) = repsN l k ++ [l.drop (24 * k)] := by simp [repsN, List.range_succ]

theorem BdV.st {w w' : World} {base g cnt : Nat} {l : List Nat} (h : BdV w base g cnt l) {S : List Nat} (hs : Still S w w') (hS : ∀ k ∈ S, ∃ cs T fr, w.heap[k]? = some (.cells cs T fr) ∧ T ≠ 198 ∧ T ≠ 5) : BdV w' base g cnt l := by
  obtain ⟨v, h1, h2⟩ := h
  refine ⟨v, h1.st hs (fun hm => ?_), h2.still hs (fun k hk hm => ?_)⟩
  · obtain ⟨cs, T, fr, e, hT, _⟩ := hS g hm
    rw [show w.heap[g]? = _ from h1] at e
    cases e
    exact hT rfl
  · obtain ⟨cs, T, fr, e, _, hT⟩ := hS k hm
    exact h2.2.2.ne e hT k hk rfl
theorem BdV.lt {w : World} {base g cnt : Nat} {l : List Nat} (h : BdV w base g cnt l) : g < w.heap.size := by
  obtain ⟨v, h1, _⟩ := h
  exact h1.lt

theorem Still.fresh {S R : List Nat} {a b c : World} (h : Still S a b) (k : Still R b c) (hR : ∀ i ∈ R, a.heap.size ≤ i) : Still S a c :=
  ⟨k.os.trans h.os, k.tape.trans h.tape, k.output.trans h.output, Nat.le_trans h.size k.size, fun i hi hs => (k.block i (Nat.lt_of_lt_of_le hi h.size) (fun hm => by have := hR i hm; omega)).trans (h.block i hi hs)⟩
set_option maxRecDepth 100000 in
set_option maxHeartbeats 8000000 in
theorem reports_ok (base g cnt : Nat) (l : List Nat) (hc : cnt ≤ 16) (hl : 24 * cnt ≤ l.length) (hlen : l.length ≤ 1000000000000) (w : World) (hr : BdV w base g cnt l) :
    Calls Try.prog 146 #[.pointer (some ⟨g, 0, none⟩)] w fun e w' => ∃ so co, e = .returned (.slice so cnt co) ∧ EQ RP 187 w' w.heap.size (.slice so cnt co) cnt (repsN l cnt) ∧ BdV w' base g cnt (l.drop (24 * cnt)) ∧ Still [g] w w' := by
  have cc := fun w => Lib.hid (counted_ok cnt hc w)
  have hgw := hr.lt
  have c0 : w.cell? ⟨g, 0, none⟩ = some (.int .i64 (cnt : Nat)) := by
    obtain ⟨v, h1, _⟩ := hr
    exact hp_cell h1 0
  replace hr := Lib.hid hr
  go_enter Try.func146, Try.ntmps146
  go_wp2_with fail
  refine Calls.mono (cc w).out ?_
  rintro e w1 ⟨rfl, rfl⟩
  dsimp only
  clear c0 cc
  go_upto_region 3 with (fail)
  go_loopg [3, 11] cnt (fun m' out i wx => ∃ (k : Nat) (so : Option Addr) (co : Nat), m' = cnt - k ∧ k ≤ cnt ∧ i = .int .i64 (k : Nat) ∧ out = .slice so k co ∧ co ≤ 9223372036854775807 ∧ Hid (EQ RP 187 wx w.heap.size (.slice so k co) k (repsN l k)) ∧ Hid (BdV wx base g cnt (l.drop (24 * k))) ∧ Hid (Still [g] w wx))
  case atStart => exact ⟨0, none, 0, rfl, by omega, rfl, rfl, by omega, EQ.nil _ _ _ _, by simpa using hr, Still.refl _ _⟩
  case round =>
    clear hr
    obtain ⟨k, so, co, rfl, hk, rfl, rfl, hco, Q, D, S⟩ := hrel
    by_cases hkc : k < cnt
    · have d1 : decide ((k : Int) < (cnt : Int)) = true := by simp; omega
      have hdl : 24 ≤ (l.drop (24 * k)).length := by rw [List.length_drop]; omega
      have hdb : (l.drop (24 * k)).length ≤ 1000000000000 := by rw [List.length_drop]; omega
      have ed : (((((((l.drop (24 * k)).drop 4).drop 1).drop 3).drop 4).drop 4).drop 4).drop 4 = l.drop (24 * (k + 1)) := by simp only [List.drop_drop]; congr 1
      have er := Lib.hid (repsN_succ l k)
      generalize hd0 : l.drop (24 * k) = d0 at *
      clear hd0
      generalize hdn : l.drop (24 * (k + 1)) = dn at *
      replace hdn := Lib.hid hdn
      have hby := D.out.byL
      have l1 : (d0.drop 4).length = d0.length - 4 := List.length_drop
      have l2 : ((d0.drop 4).drop 1).length = d0.length - 5 := by rw [List.length_drop, l1]; omega
      have l3 : (((d0.drop 4).drop 1).drop 3).length = d0.length - 8 := by rw [List.length_drop, l2]; omega
      have l4 : ((((d0.drop 4).drop 1).drop 3).drop 4).length = d0.length - 12 := by rw [List.length_drop, l3]; omega
      have l5 : (((((d0.drop 4).drop 1).drop 3).drop 4).drop 4).length = d0.length - 16 := by rw [List.length_drop, l4]; omega
      have l6 : ((((((d0.drop 4).drop 1).drop 3).drop 4).drop 4).drop 4).length = d0.length - 20 := by rw [List.length_drop, l5]; omega
      have b1 : ByL (d0.drop 4) := fun x hx => hby x (List.mem_of_mem_drop hx)
      have b2 : ByL ((d0.drop 4).drop 1) := fun x hx => b1 x (List.mem_of_mem_drop hx)
      have x1 := numB_take_lt b1 1 (by omega)
      have x2 := numB_take_lt b2 3 (by omega)
      have hre : Hid (repC d0 = [.int .u32 (numB (d0.take 4) : Nat), .int .u8 (numB ((d0.drop 4).take 1) : Nat), .int .i32 (sgn24 (numB (((d0.drop 4).drop 1).take 3))), .int .u32 (numB ((((d0.drop 4).drop 1).drop 3).take 4) : Nat), .int .u32 (numB (((((d0.drop 4).drop 1).drop 3).drop 4).take 4) : Nat), .int .u32 (numB ((((((d0.drop 4).drop 1).drop 3).drop 4).drop 4).take 4) : Nat), .int .u32 (numB (((((((d0.drop 4).drop 1).drop 3).drop 4).drop 4).drop 4).take 4) : Nat)]) := rfl
      have h0 := fun w h => Lib.hid (bword_ok base g cnt d0 (by omega) hdb w h)
      have h1 := fun w h => Lib.hid (bnum_ok base g cnt 1 (d0.drop 4) (by omega) (by omega) (by omega) (by omega) w h)
      have h2 := fun w h => Lib.hid (bnum_ok base g cnt 3 ((d0.drop 4).drop 1) (by omega) (by omega) (by omega) (by omega) w h)
      have h3 := fun w h => Lib.hid (bword_ok base g cnt (((d0.drop 4).drop 1).drop 3) (by omega) (by omega) w h)
      have h4 := fun w h => Lib.hid (bword_ok base g cnt ((((d0.drop 4).drop 1).drop 3).drop 4) (by omega) (by omega) w h)
      have h5 := fun w h => Lib.hid (bword_ok base g cnt (((((d0.drop 4).drop 1).drop 3).drop 4).drop 4) (by omega) (by omega) w h)
      have h6 := fun w h => Lib.hid (bword_ok base g cnt ((((((d0.drop 4).drop 1).drop 3).drop 4).drop 4).drop 4) (by omega) (by omega) w h)
      clear hby b1 b2 l1 l2 l3 l4 l5 l6 hdl hdb
      rw [ed] at h6
      generalize (((((d0.drop 4).drop 1).drop 3).drop 4).drop 4).drop 4 = d6 at *
      generalize ((((d0.drop 4).drop 1).drop 3).drop 4).drop 4 = d5 at *
      generalize (((d0.drop 4).drop 1).drop 3).drop 4 = d4 at *
      generalize ((d0.drop 4).drop 1).drop 3 = d3 at *
      generalize (d0.drop 4).drop 1 = d2 at *
      generalize d0.drop 4 = d1' at *
      generalize numB (d0.take 4) = v0 at *
      generalize numB (d1'.take 1) = v1 at *
      generalize numB (d2.take 3) = v2 at *
      generalize numB (d3.take 4) = v3 at *
      generalize numB (d4.take 4) = v4 at *
      generalize numB (d5.take 4) = v5 at *
      generalize numB (d6.take 4) = v6 at *
      clear ed
      have w1 : IntKind.u8.wrap (v1 : Int) = (v1 : Int) := IntWalk.u8_in _ (by omega)
      have w2 : IntKind.i32.wrap (v2 : Int) = (v2 : Int) := IntWalk.i32_in _ (by omega)
      go_wp2_with fail
      refine Calls.mono (h0 _ D.out).out ?_
      rintro e wa ⟨rfl, Da, Ta⟩
      replace Da := Lib.hid Da
      replace Ta := Lib.hid Ta
      dsimp only
      go_wp2_with fail
      refine Calls.mono (h1 _ Da.out).out ?_
      rintro e wb ⟨rfl, Db, Tb⟩
      replace Db := Lib.hid Db
      replace Tb := Lib.hid Tb
      dsimp only
      have hgb := Db.out.lt
      have BC : BW wb (wb.alloc (.cells #[.int .u32 (v0 : Nat), .int .u8 (v1 : Nat), .int .i32 0, .int .u32 0, .int .u32 0, .int .u32 0, .int .u32 0] 187)) := (BW.refl _).alloc
      have X := Lib.hid (HpB.new wb (.cells #[.int .u32 (v0 : Nat), .int .u8 (v1 : Nat), .int .i32 0, .int .u32 0, .int .u32 0, .int .u32 0, .int .u32 0] 187))
      have Dc := Lib.hid (Db.out.bw BC)
      have Rc := Lib.hid ((Ta.out.trans Tb.out).trans (BC.still [g]))
      have hwx := (Ta.out.trans Tb.out).size
      replace BC := Lib.hid BC
      clear Da Db Ta Tb
      go_upto_region 5 with (fail)
      generalize wb.alloc (.cells #[.int .u32 (v0 : Nat), .int .u8 (v1 : Nat), .int .i32 0, .int .u32 0, .int .u32 0, .int .u32 0, .int .u32 0] 187) = wc at *
      generalize wb.heap.size = gx at *
      clear BC
      have hgx : gx ∉ [g] := by simp; omega
      go_wp2_with fail
      refine Calls.mono (h2 _ Dc.out).out ?_
      rintro e wd ⟨rfl, Dd, Td⟩
      replace Rc := Lib.hid (Rc.out.trans Td)
      replace X := Lib.hid (X.out.st Td hgx)
      replace Dd := Lib.hid Dd
      replace Td := Lib.hid Td
      clear Dc Td
      dsimp only
      by_cases hs : 8388608 ≤ v2
      · have d2 : decide ((8388608 : Int) ≤ (v2 : Int)) = true := by simp; omega
        have hlo : sgn24 v2 = (v2 : Int) - 16777216 := if_pos hs
        have w3 : IntKind.i32.wrap ((v2 : Int) - 16777216) = (v2 : Int) - 16777216 := IntWalk.i32_in _ (by omega)
        rw [hlo] at hre
        clear hlo
        obtain ⟨lo, elo⟩ : ∃ lo, (v2 : Int) - 16777216 = lo := ⟨_, rfl⟩
        rw [elo] at hre w3
        go_upto_region 8 with (fail)
        clear elo w3
        go_wp2_with fail
        refine Calls.mono (h3 _ Dd.out).out ?_
        rintro e we ⟨rfl, De, Te⟩
        replace Rc := Lib.hid (Rc.out.trans Te)
        replace X := Lib.hid (X.out.st Te hgx)
        replace De := Lib.hid De
        clear Dd Te
        dsimp only
        go_wp2_with fail
        refine Calls.mono (h4 _ De.out).out ?_
        rintro e wf ⟨rfl, Df, Tf⟩
        replace Rc := Lib.hid (Rc.out.trans Tf)
        replace X := Lib.hid (X.out.st Tf hgx)
        replace Df := Lib.hid Df
        clear De Tf
        dsimp only
        go_wp2_with fail
        refine Calls.mono (h5 _ Df.out).out ?_
        rintro e wg ⟨rfl, Dg, Tg⟩
        replace Rc := Lib.hid (Rc.out.trans Tg)
        replace X := Lib.hid (X.out.st Tg hgx)
        replace Dg := Lib.hid Dg
        clear Df Tg
        dsimp only
        go_wp2_with fail
        refine Calls.mono (h6 _ Dg.out).out ?_
        rintro e wh ⟨rfl, Dh, Th⟩
        replace Rc := Lib.hid (Rc.out.trans Th)
        replace X := Lib.hid (X.out.st Th hgx)
        replace Dh := Lib.hid Dh
        clear Dg Th h0 h1 h2 h3 h4 h5 h6
        dsimp only
        have z0 := hp_cell (X.out) 0
        have y0 := hp_frz (X.out) 0
        have z1 := hp_cell (X.out) 1
        have y1 := hp_frz (X.out) 1
        have z2 := hp_cell (X.out) 2
        have y2 := hp_frz (X.out) 2
        have z3 := hp_cell (X.out) 3
        have y3 := hp_frz (X.out) 3
        have z4 := hp_cell (X.out) 4
        have y4 := hp_frz (X.out) 4
        have z5 := hp_cell (X.out) 5
        have y5 := hp_frz (X.out) 5
        have z6 := hp_cell (X.out) 6
        have y6 := hp_frz (X.out) 6
        simp only [List.getElem?_toArray, List.getElem?_cons_zero, List.getElem?_cons_succ] at z0 z1 z2 z3 z4 z5 z6
        have X8 : Hid (HpB (((((wh.setCell ⟨gx, 2, none⟩ (.int .i32 lo)).setCell ⟨gx, 3, none⟩ (.int .u32 (v3 : Nat))).setCell ⟨gx, 4, none⟩ (.int .u32 (v4 : Nat))).setCell ⟨gx, 5, none⟩ (.int .u32 (v5 : Nat))).setCell ⟨gx, 6, none⟩ (.int .u32 (v6 : Nat))) gx (.cells #[.int .u32 (v0 : Nat), .int .u8 (v1 : Nat), .int .i32 lo, .int .u32 (v3 : Nat), .int .u32 (v4 : Nat), .int .u32 (v5 : Nat), .int .u32 (v6 : Nat)] 187)) :=
          hp_set (hp_set (hp_set (hp_set (hp_set X.out 2 _) 3 _) 4 _) 5 _) 6 _
        have T8 : Still [gx] wh (((((wh.setCell ⟨gx, 2, none⟩ (.int .i32 lo)).setCell ⟨gx, 3, none⟩ (.int .u32 (v3 : Nat))).setCell ⟨gx, 4, none⟩ (.int .u32 (v4 : Nat))).setCell ⟨gx, 5, none⟩ (.int .u32 (v5 : Nat))).setCell ⟨gx, 6, none⟩ (.int .u32 (v6 : Nat))) :=
          ((((still_scB wh gx 2 _).trans (still_scB _ gx 3 _)).trans (still_scB _ gx 4 _)).trans (still_scB _ gx 5 _)).trans (still_scB _ gx 6 _)
        have D8 := Lib.hid (Dh.out.st T8 (fun q hq => by obtain rfl : q = gx := (by simpa using hq); exact ⟨_, _, _, X.out, by decide, by decide⟩))
        have hgd := D.out.row
        have Q7 := Q.out.still Rc.out (fun _ _ => trivial) (fun q hq hm => by obtain rfl : q = g := (by simpa using hm); obtain ⟨cs, hcs⟩ := hgd; exact Q.out.ne hcs (by decide) _ hq rfl)
        have Q8 := Lib.hid (Q7.still T8 (fun _ _ => trivial) (fun q hq hm => by obtain rfl : q = gx := (by simpa using hm); have := Q.out.lt' _ hq; omega))
        have R8 := Lib.hid (Rc.out.fresh T8 (fun q hq => by obtain rfl : q = gx := (by simpa using hq); exact hwx))
        clear hgd Q7 T8 Rc X Dh
        replace y0 := Lib.hid y0
        replace y1 := Lib.hid y1
        replace y2 := Lib.hid y2
        replace y3 := Lib.hid y3
        replace y4 := Lib.hid y4
        replace y5 := Lib.hid y5
        replace y6 := Lib.hid y6
        replace y2 := y2.out
        replace y3 := y3.out
        replace y4 := y4.out
        replace y5 := y5.out
        replace y6 := y6.out
        go_upto_region 9 with (fail)
        generalize ((((wh.setCell ⟨gx, 2, none⟩ (.int .i32 lo)).setCell ⟨gx, 3, none⟩ (.int .u32 (v3 : Nat))).setCell ⟨gx, 4, none⟩ (.int .u32 (v4 : Nat))).setCell ⟨gx, 5, none⟩ (.int .u32 (v5 : Nat))).setCell ⟨gx, 6, none⟩ (.int .u32 (v6 : Nat)) = w8 at *
        clear z0 z1 z2 z3 z4 z5 z6 y0 y1 y2 y3 y4 y5 y6
        have z0 := hp_cell (X8.out) 0
        have z1 := hp_cell (X8.out) 1
        have z2 := hp_cell (X8.out) 2
        have z3 := hp_cell (X8.out) 3
        have z4 := hp_cell (X8.out) 4
        have z5 := hp_cell (X8.out) 5
        have z6 := hp_cell (X8.out) 6
        simp only [List.getElem?_toArray, List.getElem?_cons_zero, List.getElem?_cons_succ] at z0 z1 z2 z3 z4 z5 z6
        have BC : BW w8 (w8.alloc (.cells #[.int .u32 (v0 : Nat), .int .u8 (v1 : Nat), .int .i32 lo, .int .u32 (v3 : Nat), .int .u32 (v4 : Nat), .int .u32 (v5 : Nat), .int .u32 (v6 : Nat)] 187)) := (BW.refl _).alloc
        have L9 := Lib.hid (Sls.new1 (E := RP) w8 187 [.int .u32 (v0 : Nat), .int .u8 (v1 : Nat), .int .i32 lo, .int .u32 (v3 : Nat), .int .u32 (v4 : Nat), .int .u32 (v5 : Nat), .int .u32 (v6 : Nat)] rfl)
        have Q9 := Lib.hid (Q8.out.bw BC)
        have D9 := Lib.hid (D8.out.bw BC)
        have R9 := Lib.hid (R8.out.trans (BC.still [g]))
        have hz9 : w.heap.size ≤ (w8.alloc (.cells #[.int .u32 (v0 : Nat), .int .u8 (v1 : Nat), .int .i32 lo, .int .u32 (v3 : Nat), .int .u32 (v4 : Nat), .int .u32 (v5 : Nat), .int .u32 (v6 : Nat)] 187)).heap.size := Nat.le_trans S.out.size R9.out.size
        clear Q8 D8 R8 X8
        replace BC := Lib.hid BC
        go_upto_region 10 with (at_builtin; go_must (refine wpList_apEQ slRP rfl _ _ rfl w.heap.size (.slice so k co) k (repsN l k) rfl Q9.out _ rfl 1 [d0] [.int .u32 (v0 : Nat), .int .u8 (v1 : Nat), .int .i32 lo, .int .u32 (v3 : Nat), .int .u32 (v4 : Nat), .int .u32 (v5 : Nat), .int .u32 (v6 : Nat)] L9.out (EL.single hre.out.symm) rfl (by omega) hz9 (fun _ _ => trivial) ?_; intro s3 c3 w3 hc3 hm3 Q3 T3 hb3 G3; unfold maxLen at hm3; replace Q3 := Lib.hid Q3; replace T3 := Lib.hid T3))
        rw [← er.out] at Q3
        have D3 := Lib.hid (D9.out.st T3.out (fun q hq => by obtain ⟨cs, hcs⟩ := Q9.out.row q (by simpa using hq); exact ⟨_, _, _, hcs, by decide, by decide⟩))
        have S3 := Lib.hid ((S.out.trans R9.out).fresh T3.out (fun q hq => Q9.out.ge' q (by simpa using hq)))
        clear Q9 D9 R9 T3 G3 L9 hz9 hb3
        clear z0 z1 z2 z3 z4 z5 z6
        go_wp2_with fail
        go_roundg (cnt - (k + 1))
        case measure => omega
        case rel => exact ⟨k + 1, s3, c3, rfl, by omega, by first | rfl | (congr 1; omega), rfl, by omega, Q3, (by rw [hdn.out]; exact D3), S3⟩
      · have d2 : decide ((8388608 : Int) ≤ (v2 : Int)) = false := by simp; omega
        have hlo : sgn24 v2 = (v2 : Int) := if_neg hs
        rw [hlo] at hre
        clear hlo
        go_upto_region 8 with (fail)
        generalize (v2 : Int) = lo at *
        go_wp2_with fail
        refine Calls.mono (h3 _ Dd.out).out ?_
        rintro e we ⟨rfl, De, Te⟩
        replace Rc := Lib.hid (Rc.out.trans Te)
        replace X := Lib.hid (X.out.st Te hgx)
        replace De := Lib.hid De
        clear Dd Te
        dsimp only
        go_wp2_with fail
        refine Calls.mono (h4 _ De.out).out ?_
        rintro e wf ⟨rfl, Df, Tf⟩
        replace Rc := Lib.hid (Rc.out.trans Tf)
        replace X := Lib.hid (X.out.st Tf hgx)
        replace Df := Lib.hid Df
        clear De Tf
        dsimp only
        go_wp2_with fail
        refine Calls.mono (h5 _ Df.out).out ?_
        rintro e wg ⟨rfl, Dg, Tg⟩
        replace Rc := Lib.hid (Rc.out.trans Tg)
        replace X := Lib.hid (X.out.st Tg hgx)
        replace Dg := Lib.hid Dg
        clear Df Tg
        dsimp only
        go_wp2_with fail
        refine Calls.mono (h6 _ Dg.out).out ?_
        rintro e wh ⟨rfl, Dh, Th⟩
        replace Rc := Lib.hid (Rc.out.trans Th)
        replace X := Lib.hid (X.out.st Th hgx)
        replace Dh := Lib.hid Dh
        clear Dg Th h0 h1 h2 h3 h4 h5 h6
        dsimp only
        have z0 := hp_cell (X.out) 0
        have y0 := hp_frz (X.out) 0
        have z1 := hp_cell (X.out) 1
        have y1 := hp_frz (X.out) 1
        have z2 := hp_cell (X.out) 2
        have y2 := hp_frz (X.out) 2
        have z3 := hp_cell (X.out) 3
        have y3 := hp_frz (X.out) 3
        have z4 := hp_cell (X.out) 4
        have y4 := hp_frz (X.out) 4
        have z5 := hp_cell (X.out) 5
        have y5 := hp_frz (X.out) 5
        have z6 := hp_cell (X.out) 6
        have y6 := hp_frz (X.out) 6
        simp only [List.getElem?_toArray, List.getElem?_cons_zero, List.getElem?_cons_succ] at z0 z1 z2 z3 z4 z5 z6
        have X8 : Hid (HpB (((((wh.setCell ⟨gx, 2, none⟩ (.int .i32 lo)).setCell ⟨gx, 3, none⟩ (.int .u32 (v3 : Nat))).setCell ⟨gx, 4, none⟩ (.int .u32 (v4 : Nat))).setCell ⟨gx, 5, none⟩ (.int .u32 (v5 : Nat))).setCell ⟨gx, 6, none⟩ (.int .u32 (v6 : Nat))) gx (.cells #[.int .u32 (v0 : Nat), .int .u8 (v1 : Nat), .int .i32 lo, .int .u32 (v3 : Nat), .int .u32 (v4 : Nat), .int .u32 (v5 : Nat), .int .u32 (v6 : Nat)] 187)) :=
          hp_set (hp_set (hp_set (hp_set (hp_set X.out 2 _) 3 _) 4 _) 5 _) 6 _
        have T8 : Still [gx] wh (((((wh.setCell ⟨gx, 2, none⟩ (.int .i32 lo)).setCell ⟨gx, 3, none⟩ (.int .u32 (v3 : Nat))).setCell ⟨gx, 4, none⟩ (.int .u32 (v4 : Nat))).setCell ⟨gx, 5, none⟩ (.int .u32 (v5 : Nat))).setCell ⟨gx, 6, none⟩ (.int .u32 (v6 : Nat))) :=
          ((((still_scB wh gx 2 _).trans (still_scB _ gx 3 _)).trans (still_scB _ gx 4 _)).trans (still_scB _ gx 5 _)).trans (still_scB _ gx 6 _)
        have D8 := Lib.hid (Dh.out.st T8 (fun q hq => by obtain rfl : q = gx := (by simpa using hq); exact ⟨_, _, _, X.out, by decide, by decide⟩))
        have hgd := D.out.row
        have Q7 := Q.out.still Rc.out (fun _ _ => trivial) (fun q hq hm => by obtain rfl : q = g := (by simpa using hm); obtain ⟨cs, hcs⟩ := hgd; exact Q.out.ne hcs (by decide) _ hq rfl)
        have Q8 := Lib.hid (Q7.still T8 (fun _ _ => trivial) (fun q hq hm => by obtain rfl : q = gx := (by simpa using hm); have := Q.out.lt' _ hq; omega))
        have R8 := Lib.hid (Rc.out.fresh T8 (fun q hq => by obtain rfl : q = gx := (by simpa using hq); exact hwx))
        clear hgd Q7 T8 Rc X Dh
        replace y0 := Lib.hid y0
        replace y1 := Lib.hid y1
        replace y2 := Lib.hid y2
        replace y3 := Lib.hid y3
        replace y4 := Lib.hid y4
        replace y5 := Lib.hid y5
        replace y6 := Lib.hid y6
        replace y2 := y2.out
        replace y3 := y3.out
        replace y4 := y4.out
        replace y5 := y5.out
        replace y6 := y6.out
        go_upto_region 9 with (fail)
        generalize ((((wh.setCell ⟨gx, 2, none⟩ (.int .i32 lo)).setCell ⟨gx, 3, none⟩ (.int .u32 (v3 : Nat))).setCell ⟨gx, 4, none⟩ (.int .u32 (v4 : Nat))).setCell ⟨gx, 5, none⟩ (.int .u32 (v5 : Nat))).setCell ⟨gx, 6, none⟩ (.int .u32 (v6 : Nat)) = w8 at *
        clear z0 z1 z2 z3 z4 z5 z6 y0 y1 y2 y3 y4 y5 y6
        have z0 := hp_cell (X8.out) 0
        have z1 := hp_cell (X8.out) 1
        have z2 := hp_cell (X8.out) 2
        have z3 := hp_cell (X8.out) 3
        have z4 := hp_cell (X8.out) 4
        have z5 := hp_cell (X8.out) 5
        have z6 := hp_cell (X8.out) 6
        simp only [List.getElem?_toArray, List.getElem?_cons_zero, List.getElem?_cons_succ] at z0 z1 z2 z3 z4 z5 z6
        have BC : BW w8 (w8.alloc (.cells #[.int .u32 (v0 : Nat), .int .u8 (v1 : Nat), .int .i32 lo, .int .u32 (v3 : Nat), .int .u32 (v4 : Nat), .int .u32 (v5 : Nat), .int .u32 (v6 : Nat)] 187)) := (BW.refl _).alloc
        have L9 := Lib.hid (Sls.new1 (E := RP) w8 187 [.int .u32 (v0 : Nat), .int .u8 (v1 : Nat), .int .i32 lo, .int .u32 (v3 : Nat), .int .u32 (v4 : Nat), .int .u32 (v5 : Nat), .int .u32 (v6 : Nat)] rfl)
        have Q9 := Lib.hid (Q8.out.bw BC)
        have D9 := Lib.hid (D8.out.bw BC)
        have R9 := Lib.hid (R8.out.trans (BC.still [g]))
        have hz9 : w.heap.size ≤ (w8.alloc (.cells #[.int .u32 (v0 : Nat), .int .u8 (v1 : Nat), .int .i32 lo, .int .u32 (v3 : Nat), .int .u32 (v4 : Nat), .int .u32 (v5 : Nat), .int .u32 (v6 : Nat)] 187)).heap.size := Nat.le_trans S.out.size R9.out.size
        clear Q8 D8 R8 X8
        replace BC := Lib.hid BC
        go_upto_region 10 with (at_builtin; go_must (refine wpList_apEQ slRP rfl _ _ rfl w.heap.size (.slice so k co) k (repsN l k) rfl Q9.out _ rfl 1 [d0] [.int .u32 (v0 : Nat), .int .u8 (v1 : Nat), .int .i32 lo, .int .u32 (v3 : Nat), .int .u32 (v4 : Nat), .int .u32 (v5 : Nat), .int .u32 (v6 : Nat)] L9.out (EL.single hre.out.symm) rfl (by omega) hz9 (fun _ _ => trivial) ?_; intro s3 c3 w3 hc3 hm3 Q3 T3 hb3 G3; unfold maxLen at hm3; replace Q3 := Lib.hid Q3; replace T3 := Lib.hid T3))
        rw [← er.out] at Q3
        have D3 := Lib.hid (D9.out.st T3.out (fun q hq => by obtain ⟨cs, hcs⟩ := Q9.out.row q (by simpa using hq); exact ⟨_, _, _, hcs, by decide, by decide⟩))
        have S3 := Lib.hid ((S.out.trans R9.out).fresh T3.out (fun q hq => Q9.out.ge' q (by simpa using hq)))
        clear Q9 D9 R9 T3 G3 L9 hz9 hb3
        clear z0 z1 z2 z3 z4 z5 z6
        go_wp2_with fail
        go_roundg (cnt - (k + 1))
        case measure => omega
        case rel => exact ⟨k + 1, s3, c3, rfl, by omega, by first | rfl | (congr 1; omega), rfl, by omega, Q3, (by rw [hdn.out]; exact D3), S3⟩
    · obtain rfl : k = cnt := by omega
      have d1 : decide ((k : Int) < (k : Int)) = false := by simp
      go_wp2_with fail
      go_ret
      exact ⟨so, co, rfl, Q.out, D.out, S.out⟩
end Go.Proofs.Ytcempndfbckcaaa
