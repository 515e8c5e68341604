/- rtcp's body of a packet, gone along: need, counted, num, word. No condition. rtcp's body: reports of a count. No condition but the sizes'. Control packets in memory: kinds of elements, a packet's thirteen cells. No condition. rtcp's body: a receiver's report. No condition but the sizes'. -/
import Derived.Test.YtcempndfbckcaaaNum
import Derived.Test.YtcempndfbckcaaaGKi
import Derived.Test.YtcempndfbckcaaaApO
import Derived.Test.YtcempndfbckcaaaGEl
import Derived.Test.YtcempndfbckcaaaPuE
import Derived.Test.YtcempndfbckcaaaBst
namespace Go.Proofs.Ytcempndfbckcaaa
open Go.RowKit
set_option maxRecDepth 100000 in
set_option maxHeartbeats 8000000 in
theorem need_ok (w : World) : Calls Try.prog 90 #[.bool true] w fun e w' => e = .returned (.tuple #[]) ∧ w = w' := by
 go_enter Try.func90, Try.ntmps90
 go_wp2
 go_end0
 exact ⟨rfl, rfl⟩
set_option maxRecDepth 100000 in
set_option maxHeartbeats 8000000 in
theorem counted_ok (n : Nat) (hn : n ≤ 16) (w : World) : Calls Try.prog 147 #[.int .i64 (n : Nat)] w fun e w' => e = .returned (.int .i64 (n : Nat)) ∧ w = w' := by
 have d : decide ((n : Int) ≤ 16) = true := by simp; omega
 go_enter Try.func147, Try.ntmps147
 go_wp2_with fail
 refine Calls.mono (need_ok w) ?_
 rintro e w' ⟨rfl, rfl⟩
 dsimp only
 go_wp2_with fail
 go_ret
 exact ⟨rfl, rfl⟩
def BdV (w : World) (base g cnt : Nat) (l : List Nat) : Prop := ∃ v, HpB w g (.cells #[.int .i64 (cnt : Nat), v] 198) ∧ OB w base 5 v l.length l
theorem BdV.bw {w w' : World} {base g cnt : Nat} {l : List Nat} (h : BdV w base g cnt l) (hb : BW w w') : BdV w' base g cnt l := by
 obtain ⟨v, h1, h2⟩ := h
 exact ⟨v, h1.bw hb, h2.bw hb⟩
theorem BdV.row {w : World} {base g cnt : Nat} {l : List Nat} (h : BdV w base g cnt l) : ∃ cs, w.heap[g]? = some (.cells cs 198 (0, 0)) := by
 obtain ⟨v, h1, _⟩ := h
 exact ⟨_, h1⟩
theorem still_scB (w : World) (g o : Nat) (v : Value) : Still [g] w (w.setCell ⟨g, o, none⟩ v) := by
 refine ⟨rfl, rfl, rfl, by simp [World.setCell], fun k _ hk => ?_⟩
 exact hp_oth (by simpa using hk)
set_option maxRecDepth 100000 in
set_option maxHeartbeats 8000000 in
theorem bnum_ok (base g cnt n : Nat) (l : List Nat) (hn1 : 1 ≤ n) (hn8 : n ≤ 8) (hnl : n ≤ l.length) (hlen : l.length ≤ 1000000000000) (w : World) (hr : BdV w base g cnt l) :
  Calls Try.prog 145 #[.pointer (some ⟨g, 0, none⟩), .int .i64 (n : Nat)] w fun e w' => e = .returned (.int .u64 (numB (l.take n) : Nat)) ∧ BdV w' base g cnt (l.drop n) ∧ Still [g] w w' := by
 obtain ⟨v, H, O⟩ := hr
 obtain ⟨sa, cap, rfl, hcap, hm⟩ := O.len
 unfold maxLen at hm
 have O1 := O.cut n l.length cap hnl (Nat.le_refl _) hcap (Nat.le_refl _)
 have ht : (l.drop n).take (l.length - n) = l.drop n := List.take_of_length_le (by rw [List.length_drop]; omega)
 rw [ht] at O1
 have cn := fun wz hv => Lib.hid (num_ok (.slice sa l.length cap) l.length l 0 n 0 n hn1 hn8 (by omega) rfl rfl wz hv)
 simp only [List.drop_zero] at cn
 have hcut := fun w => run_cut_l (P := Try.prog) Try.underlying36 info_u8 sa l.length cap n (n : Int) rfl .i64 hnl w
 have hd : (l.drop n).length = l.length - n := List.length_drop
 generalize numB (l.take n) = x at *
 generalize hll : l.length = len at *
 generalize l.drop n = r at *
 have c0 := hp_cell H 1
 simp only [List.getElem?_toArray, List.getElem?_cons_succ, List.getElem?_cons_zero] at c0
 have f0 := hp_frz H 1
 have H1 : Hid (HpB (w.setCell ⟨g, 1, none⟩ (.slice (cutA sa n cap 1) (len - n) (cap - n))) g (.cells #[.int .i64 (cnt : Nat), .slice (cutA sa n cap 1) (len - n) (cap - n)] 198)) := hp_set H 1 _
 have T1 := Lib.hid (still_scB w g 1 (.slice (cutA sa n cap 1) (len - n) (cap - n)))
 have V := Lib.hid O.sb
 have O2 := Lib.hid (O1.still T1.out (fun k hk hm => O1.2.2.ne H (by decide) k hk (by simpa using hm)))
 replace H := Lib.hid H
 replace O := Lib.hid O
 replace O1 := Lib.hid O1
 replace hd := Lib.hid hd
 go_enter Try.func145, Try.ntmps145
 go_wp2_with fail
 refine Calls.mono (cn w V.out).out ?_
 rintro e w1 ⟨rfl, rfl⟩
 dsimp only
 go_wp2_with fail
 refine Calls.mono (need_ok w) ?_
 rintro e w' ⟨rfl, rfl⟩
 dsimp only
 go_wp2_with fail
 go_ret
 refine ⟨rfl, ⟨_, H1.out, ?_⟩, T1.out⟩
 rw [hd.out]
 exact O2.out
theorem BdV.byL {w : World} {base g cnt : Nat} {l : List Nat} (h : BdV w base g cnt l) : ByL l := by
 obtain ⟨v, _, h2⟩ := h
 exact h2.2.1
theorem numB_take_lt {l : List Nat} (h : ByL l) (n : Nat) (hn : n ≤ l.length) : numB (l.take n) < 256 ^ n := by
 have := numB_lt (l.take n) (fun x hx => h x (List.mem_of_mem_take hx))
 rwa [List.length_take, Nat.min_eq_left hn] at this
set_option maxRecDepth 100000 in
set_option maxHeartbeats 8000000 in
theorem bword_ok (base g cnt : Nat) (l : List Nat) (hnl : 4 ≤ l.length) (hlen : l.length ≤ 1000000000000) (w : World) (hr : BdV w base g cnt l) :
  Calls Try.prog 144 #[.pointer (some ⟨g, 0, none⟩)] w fun e w' => e = .returned (.int .u32 (numB (l.take 4) : Nat)) ∧ BdV w' base g cnt (l.drop 4) ∧ Still [g] w w' := by
 have c := Lib.hid (bnum_ok base g cnt 4 l (by omega) (by omega) hnl hlen w hr)
 have hlt := numB_take_lt hr.byL 4 hnl
 generalize numB (l.take 4) = x at *
 have hw : IntKind.u32.wrap (x : Int) = (x : Nat) := IntWalk.u32_in _ (by omega)
 clear hlt
 go_enter Try.func144, Try.ntmps144
 go_wp2_with fail
 refine Calls.mono c.out ?_
 rintro e w1 ⟨rfl, hb, ht⟩
 dsimp only
 go_wp2_with fail
 go_ret
 exact ⟨rfl, hb, ht⟩
end Go.Proofs.Ytcempndfbckcaaa

namespace Go.Proofs.Ytcempndfbckcaaa
open Go.RowKit
def sgn24 (x : Nat) : Int := if 8388608 ≤ x then (x : Int) - 16777216 else x
def repC (d : List Nat) : List Value :=
 [.int .u32 (numB (d.take 4) : Nat), .int .u8 (numB ((d.drop 4).take 1) : Nat), .int .i32 (sgn24 (numB (((d.drop 4).drop 1).take 3))), .int .u32 (numB ((((d.drop 4).drop 1).drop 3).take 4) : Nat), .int .u32 (numB (((((d.drop 4).drop 1).drop 3).drop 4).take 4) : Nat),
  .int .u32 (numB ((((((d.drop 4).drop 1).drop 3).drop 4).drop 4).take 4) : Nat), .int .u32 (numB (((((((d.drop 4).drop 1).drop 3).drop 4).drop 4).drop 4).take 4) : Nat)]
def RP : Elt (List Nat) where
 size := 7
 R := fun _ _ d c => c = repC d
 Ok := fun _ _ => True
 pos := by decide
 len := fun e => by rw [e]; rfl
 one := fun e u hu => by
  rw [e] at hu
  simp only [repC, List.mem_cons, List.not_mem_nil, or_false] at hu
  rcases hu with rfl | rfl | rfl | rfl | rfl | rfl | rfl <;> rfl
 bw := fun e _ => e
 up := fun e _ => e
 still := fun e _ _ => e
 old := fun e _ _ => e
theorem slRP : SlTy Try.prog 107 187 7 28 := SlTy.mk' Try.underlying107 (by kernel_rfl) (by decide)
def repsN (l : List Nat) (k : Nat) : List (List Nat) := (List.range k).map fun j => l.drop (24 * j)
theorem repsN_succ (l : List Nat) (k : Nat) : repsN l (k + 1) = repsN l k ++ [l.drop (24 * k)] := by simp [repsN, List.range_succ]
theorem BdV.st {w w' : World} {base g cnt : Nat} {l : List Nat} (h : BdV w base g cnt l) {S : List Nat} (hs : Still S w w') (hS : ∀ k ∈ S, ∃ cs T fr, w.heap[k]? = some (.cells cs T fr) ∧ T ≠ 198 ∧ T ≠ 5) : BdV w' base g cnt l := by
 obtain ⟨v, h1, h2⟩ := h
 refine ⟨v, h1.st hs (fun hm => ?_), h2.still hs (fun k hk hm => ?_)⟩
 ·obtain ⟨cs, T, fr, e, hT, _⟩ := hS g hm
  rw [show w.heap[g]? = _ from h1] at e
  cases e
  exact hT rfl
 ·obtain ⟨cs, T, fr, e, _, hT⟩ := hS k hm
  exact h2.2.2.ne e hT k hk rfl
theorem BdV.lt {w : World} {base g cnt : Nat} {l : List Nat} (h : BdV w base g cnt l) : g < w.heap.size := by
 obtain ⟨v, h1, _⟩ := h
 exact h1.lt
theorem Still.fresh {S R : List Nat} {a b c : World} (h : Still S a b) (k : Still R b c) (hR : ∀ i ∈ R, a.heap.size ≤ i) : Still S a c :=
 ⟨k.os.trans h.os, k.tape.trans h.tape, k.output.trans h.output, Nat.le_trans h.size k.size, fun i hi hs => (k.block i (Nat.lt_of_lt_of_le hi h.size) (fun hm => by have := hR i hm; omega)).trans (h.block i hi hs)⟩
set_option maxRecDepth 100000 in
set_option maxHeartbeats 8000000 in
theorem reports_ok (base g cnt : Nat) (l : List Nat) (hc : cnt ≤ 16) (hl : 24 * cnt ≤ l.length) (hlen : l.length ≤ 1000000000000) (w : World) (hr : BdV w base g cnt l) :
  Calls Try.prog 146 #[.pointer (some ⟨g, 0, none⟩)] w fun e w' => ∃ so co, e = .returned (.slice so cnt co) ∧ EQ RP 187 w' w.heap.size (.slice so cnt co) cnt (repsN l cnt) ∧ BdV w' base g cnt (l.drop (24 * cnt)) ∧ Still [g] w w' := by
 have cc := fun w => Lib.hid (counted_ok cnt hc w)
 have hgw := hr.lt
 have c0 : w.cell? ⟨g, 0, none⟩ = some (.int .i64 (cnt : Nat)) := by
  obtain ⟨v, h1, _⟩ := hr
  exact hp_cell h1 0
 replace hr := Lib.hid hr
 go_enter Try.func146, Try.ntmps146
 go_wp2_with fail
 refine Calls.mono (cc w).out ?_
 rintro e w1 ⟨rfl, rfl⟩
 dsimp only
 clear c0 cc
 go_upto_region 3 with (fail)
 go_loopg [3, 11] cnt (fun m' out i wx => ∃ (k : Nat) (so : Option Addr) (co : Nat), m' = cnt - k ∧ k ≤ cnt ∧ i = .int .i64 (k : Nat) ∧ out = .slice so k co ∧ co ≤ 9223372036854775807 ∧ Hid (EQ RP 187 wx w.heap.size (.slice so k co) k (repsN l k)) ∧ Hid (BdV wx base g cnt (l.drop (24 * k))) ∧ Hid (Still [g] w wx))
 case atStart => exact ⟨0, none, 0, rfl, by omega, rfl, rfl, by omega, EQ.nil _ _ _ _, by simpa using hr, Still.refl _ _⟩
 case round =>
  clear hr
  obtain ⟨k, so, co, rfl, hk, rfl, rfl, hco, Q, D, S⟩ := hrel
  by_cases hkc : k < cnt
  ·have d1 : decide ((k : Int) < (cnt : Int)) = true := by simp; omega
   have hdl : 24 ≤ (l.drop (24 * k)).length := by rw [List.length_drop]; omega
   have hdb : (l.drop (24 * k)).length ≤ 1000000000000 := by rw [List.length_drop]; omega
   have ed : (((((((l.drop (24 * k)).drop 4).drop 1).drop 3).drop 4).drop 4).drop 4).drop 4 = l.drop (24 * (k + 1)) := by simp only [List.drop_drop]; congr 1
   have er := Lib.hid (repsN_succ l k)
   generalize hd0 : l.drop (24 * k) = d0 at *
   clear hd0
   generalize hdn : l.drop (24 * (k + 1)) = dn at *
   replace hdn := Lib.hid hdn
   have hby := D.out.byL
   have l1 : (d0.drop 4).length = d0.length - 4 := List.length_drop
   have l2 : ((d0.drop 4).drop 1).length = d0.length - 5 := by rw [List.length_drop, l1]; omega
   have l3 : (((d0.drop 4).drop 1).drop 3).length = d0.length - 8 := by rw [List.length_drop, l2]; omega
   have l4 : ((((d0.drop 4).drop 1).drop 3).drop 4).length = d0.length - 12 := by rw [List.length_drop, l3]; omega
   have l5 : (((((d0.drop 4).drop 1).drop 3).drop 4).drop 4).length = d0.length - 16 := by rw [List.length_drop, l4]; omega
   have l6 : ((((((d0.drop 4).drop 1).drop 3).drop 4).drop 4).drop 4).length = d0.length - 20 := by rw [List.length_drop, l5]; omega
   have b1 : ByL (d0.drop 4) := fun x hx => hby x (List.mem_of_mem_drop hx)
   have b2 : ByL ((d0.drop 4).drop 1) := fun x hx => b1 x (List.mem_of_mem_drop hx)
   have x1 := numB_take_lt b1 1 (by omega)
   have x2 := numB_take_lt b2 3 (by omega)
   have hre : Hid (repC d0 = [.int .u32 (numB (d0.take 4) : Nat), .int .u8 (numB ((d0.drop 4).take 1) : Nat), .int .i32 (sgn24 (numB (((d0.drop 4).drop 1).take 3))), .int .u32 (numB ((((d0.drop 4).drop 1).drop 3).take 4) : Nat), .int .u32 (numB (((((d0.drop 4).drop 1).drop 3).drop 4).take 4) : Nat), .int .u32 (numB ((((((d0.drop 4).drop 1).drop 3).drop 4).drop 4).take 4) : Nat), .int .u32 (numB (((((((d0.drop 4).drop 1).drop 3).drop 4).drop 4).drop 4).take 4) : Nat)]) := rfl
   have h0 := fun w h => Lib.hid (bword_ok base g cnt d0 (by omega) hdb w h)
   have h1 := fun w h => Lib.hid (bnum_ok base g cnt 1 (d0.drop 4) (by omega) (by omega) (by omega) (by omega) w h)
   have h2 := fun w h => Lib.hid (bnum_ok base g cnt 3 ((d0.drop 4).drop 1) (by omega) (by omega) (by omega) (by omega) w h)
   have h3 := fun w h => Lib.hid (bword_ok base g cnt (((d0.drop 4).drop 1).drop 3) (by omega) (by omega) w h)
   have h4 := fun w h => Lib.hid (bword_ok base g cnt ((((d0.drop 4).drop 1).drop 3).drop 4) (by omega) (by omega) w h)
   have h5 := fun w h => Lib.hid (bword_ok base g cnt (((((d0.drop 4).drop 1).drop 3).drop 4).drop 4) (by omega) (by omega) w h)
   have h6 := fun w h => Lib.hid (bword_ok base g cnt ((((((d0.drop 4).drop 1).drop 3).drop 4).drop 4).drop 4) (by omega) (by omega) w h)
   clear hby b1 b2 l1 l2 l3 l4 l5 l6 hdl hdb
   rw [ed] at h6
   generalize (((((d0.drop 4).drop 1).drop 3).drop 4).drop 4).drop 4 = d6 at *
   generalize ((((d0.drop 4).drop 1).drop 3).drop 4).drop 4 = d5 at *
   generalize (((d0.drop 4).drop 1).drop 3).drop 4 = d4 at *
   generalize ((d0.drop 4).drop 1).drop 3 = d3 at *
   generalize (d0.drop 4).drop 1 = d2 at *
   generalize d0.drop 4 = d1' at *
   generalize numB (d0.take 4) = v0 at *
   generalize numB (d1'.take 1) = v1 at *
   generalize numB (d2.take 3) = v2 at *
   generalize numB (d3.take 4) = v3 at *
   generalize numB (d4.take 4) = v4 at *
   generalize numB (d5.take 4) = v5 at *
   generalize numB (d6.take 4) = v6 at *
   clear ed
   have w1 : IntKind.u8.wrap (v1 : Int) = (v1 : Int) := IntWalk.u8_in _ (by omega)
   have w2 : IntKind.i32.wrap (v2 : Int) = (v2 : Int) := IntWalk.i32_in _ (by omega)
   go_wp2_with fail
   refine Calls.mono (h0 _ D.out).out ?_
   rintro e wa ⟨rfl, Da, Ta⟩
   replace Da := Lib.hid Da
   replace Ta := Lib.hid Ta
   dsimp only
   go_wp2_with fail
   refine Calls.mono (h1 _ Da.out).out ?_
   rintro e wb ⟨rfl, Db, Tb⟩
   replace Db := Lib.hid Db
   replace Tb := Lib.hid Tb
   dsimp only
   have hgb := Db.out.lt
   have BC : BW wb (wb.alloc (.cells #[.int .u32 (v0 : Nat), .int .u8 (v1 : Nat), .int .i32 0, .int .u32 0, .int .u32 0, .int .u32 0, .int .u32 0] 187)) := (BW.refl _).alloc
   have X := Lib.hid (HpB.new wb (.cells #[.int .u32 (v0 : Nat), .int .u8 (v1 : Nat), .int .i32 0, .int .u32 0, .int .u32 0, .int .u32 0, .int .u32 0] 187))
   have Dc := Lib.hid (Db.out.bw BC)
   have Rc := Lib.hid ((Ta.out.trans Tb.out).trans (BC.still [g]))
   have hwx := (Ta.out.trans Tb.out).size
   replace BC := Lib.hid BC
   clear Da Db Ta Tb
   go_upto_region 5 with (fail)
   generalize wb.alloc (.cells #[.int .u32 (v0 : Nat), .int .u8 (v1 : Nat), .int .i32 0, .int .u32 0, .int .u32 0, .int .u32 0, .int .u32 0] 187) = wc at *
   generalize wb.heap.size = gx at *
   clear BC
   have hgx : gx ∉ [g] := by simp; omega
   go_wp2_with fail
   refine Calls.mono (h2 _ Dc.out).out ?_
   rintro e wd ⟨rfl, Dd, Td⟩
   replace Rc := Lib.hid (Rc.out.trans Td)
   replace X := Lib.hid (X.out.st Td hgx)
   replace Dd := Lib.hid Dd
   replace Td := Lib.hid Td
   clear Dc Td
   dsimp only
   by_cases hs : 8388608 ≤ v2
   ·have d2 : decide ((8388608 : Int) ≤ (v2 : Int)) = true := by simp; omega
    have hlo : sgn24 v2 = (v2 : Int) - 16777216 := if_pos hs
    have w3 : IntKind.i32.wrap ((v2 : Int) - 16777216) = (v2 : Int) - 16777216 := IntWalk.i32_in _ (by omega)
    rw [hlo] at hre
    clear hlo
    obtain ⟨lo, elo⟩ : ∃ lo, (v2 : Int) - 16777216 = lo := ⟨_, rfl⟩
    rw [elo] at hre w3
    go_upto_region 8 with (fail)
    clear elo w3
    go_wp2_with fail
    refine Calls.mono (h3 _ Dd.out).out ?_
    rintro e we ⟨rfl, De, Te⟩
    replace Rc := Lib.hid (Rc.out.trans Te)
    replace X := Lib.hid (X.out.st Te hgx)
    replace De := Lib.hid De
    clear Dd Te
    dsimp only
    go_wp2_with fail
    refine Calls.mono (h4 _ De.out).out ?_
    rintro e wf ⟨rfl, Df, Tf⟩
    replace Rc := Lib.hid (Rc.out.trans Tf)
    replace X := Lib.hid (X.out.st Tf hgx)
    replace Df := Lib.hid Df
    clear De Tf
    dsimp only
    go_wp2_with fail
    refine Calls.mono (h5 _ Df.out).out ?_
    rintro e wg ⟨rfl, Dg, Tg⟩
    replace Rc := Lib.hid (Rc.out.trans Tg)
    replace X := Lib.hid (X.out.st Tg hgx)
    replace Dg := Lib.hid Dg
    clear Df Tg
    dsimp only
    go_wp2_with fail
    refine Calls.mono (h6 _ Dg.out).out ?_
    rintro e wh ⟨rfl, Dh, Th⟩
    replace Rc := Lib.hid (Rc.out.trans Th)
    replace X := Lib.hid (X.out.st Th hgx)
    replace Dh := Lib.hid Dh
    clear Dg Th h0 h1 h2 h3 h4 h5 h6
    dsimp only
    have z0 := hp_cell (X.out) 0
    have y0 := hp_frz (X.out) 0
    have z1 := hp_cell (X.out) 1
    have y1 := hp_frz (X.out) 1
    have z2 := hp_cell (X.out) 2
    have y2 := hp_frz (X.out) 2
    have z3 := hp_cell (X.out) 3
    have y3 := hp_frz (X.out) 3
    have z4 := hp_cell (X.out) 4
    have y4 := hp_frz (X.out) 4
    have z5 := hp_cell (X.out) 5
    have y5 := hp_frz (X.out) 5
    have z6 := hp_cell (X.out) 6
    have y6 := hp_frz (X.out) 6
    simp only [List.getElem?_toArray, List.getElem?_cons_zero, List.getElem?_cons_succ] at z0 z1 z2 z3 z4 z5 z6
    have X8 : Hid (HpB (((((wh.setCell ⟨gx, 2, none⟩ (.int .i32 lo)).setCell ⟨gx, 3, none⟩ (.int .u32 (v3 : Nat))).setCell ⟨gx, 4, none⟩ (.int .u32 (v4 : Nat))).setCell ⟨gx, 5, none⟩ (.int .u32 (v5 : Nat))).setCell ⟨gx, 6, none⟩ (.int .u32 (v6 : Nat))) gx (.cells #[.int .u32 (v0 : Nat), .int .u8 (v1 : Nat), .int .i32 lo, .int .u32 (v3 : Nat), .int .u32 (v4 : Nat), .int .u32 (v5 : Nat), .int .u32 (v6 : Nat)] 187)) :=
     hp_set (hp_set (hp_set (hp_set (hp_set X.out 2 _) 3 _) 4 _) 5 _) 6 _
    have T8 : Still [gx] wh (((((wh.setCell ⟨gx, 2, none⟩ (.int .i32 lo)).setCell ⟨gx, 3, none⟩ (.int .u32 (v3 : Nat))).setCell ⟨gx, 4, none⟩ (.int .u32 (v4 : Nat))).setCell ⟨gx, 5, none⟩ (.int .u32 (v5 : Nat))).setCell ⟨gx, 6, none⟩ (.int .u32 (v6 : Nat))) :=
     ((((still_scB wh gx 2 _).trans (still_scB _ gx 3 _)).trans (still_scB _ gx 4 _)).trans (still_scB _ gx 5 _)).trans (still_scB _ gx 6 _)
    have D8 := Lib.hid (Dh.out.st T8 (fun q hq => by obtain rfl : q = gx := (by simpa using hq); exact ⟨_, _, _, X.out, by decide, by decide⟩))
    have hgd := D.out.row
    have Q7 := Q.out.still Rc.out (fun _ _ => trivial) (fun q hq hm => by obtain rfl : q = g := (by simpa using hm); obtain ⟨cs, hcs⟩ := hgd; exact Q.out.ne hcs (by decide) _ hq rfl)
    have Q8 := Lib.hid (Q7.still T8 (fun _ _ => trivial) (fun q hq hm => by obtain rfl : q = gx := (by simpa using hm); have := Q.out.lt' _ hq; omega))
    have R8 := Lib.hid (Rc.out.fresh T8 (fun q hq => by obtain rfl : q = gx := (by simpa using hq); exact hwx))
    clear hgd Q7 T8 Rc X Dh
    replace y0 := Lib.hid y0
    replace y1 := Lib.hid y1
    replace y2 := Lib.hid y2
    replace y3 := Lib.hid y3
    replace y4 := Lib.hid y4
    replace y5 := Lib.hid y5
    replace y6 := Lib.hid y6
    replace y2 := y2.out
    replace y3 := y3.out
    replace y4 := y4.out
    replace y5 := y5.out
    replace y6 := y6.out
    go_upto_region 9 with (fail)
    generalize ((((wh.setCell ⟨gx, 2, none⟩ (.int .i32 lo)).setCell ⟨gx, 3, none⟩ (.int .u32 (v3 : Nat))).setCell ⟨gx, 4, none⟩ (.int .u32 (v4 : Nat))).setCell ⟨gx, 5, none⟩ (.int .u32 (v5 : Nat))).setCell ⟨gx, 6, none⟩ (.int .u32 (v6 : Nat)) = w8 at *
    clear z0 z1 z2 z3 z4 z5 z6 y0 y1 y2 y3 y4 y5 y6
    have z0 := hp_cell (X8.out) 0
    have z1 := hp_cell (X8.out) 1
    have z2 := hp_cell (X8.out) 2
    have z3 := hp_cell (X8.out) 3
    have z4 := hp_cell (X8.out) 4
    have z5 := hp_cell (X8.out) 5
    have z6 := hp_cell (X8.out) 6
    simp only [List.getElem?_toArray, List.getElem?_cons_zero, List.getElem?_cons_succ] at z0 z1 z2 z3 z4 z5 z6
    have BC : BW w8 (w8.alloc (.cells #[.int .u32 (v0 : Nat), .int .u8 (v1 : Nat), .int .i32 lo, .int .u32 (v3 : Nat), .int .u32 (v4 : Nat), .int .u32 (v5 : Nat), .int .u32 (v6 : Nat)] 187)) := (BW.refl _).alloc
    have L9 := Lib.hid (Sls.new1 (E := RP) w8 187 [.int .u32 (v0 : Nat), .int .u8 (v1 : Nat), .int .i32 lo, .int .u32 (v3 : Nat), .int .u32 (v4 : Nat), .int .u32 (v5 : Nat), .int .u32 (v6 : Nat)] rfl)
    have Q9 := Lib.hid (Q8.out.bw BC)
    have D9 := Lib.hid (D8.out.bw BC)
    have R9 := Lib.hid (R8.out.trans (BC.still [g]))
    have hz9 : w.heap.size ≤ (w8.alloc (.cells #[.int .u32 (v0 : Nat), .int .u8 (v1 : Nat), .int .i32 lo, .int .u32 (v3 : Nat), .int .u32 (v4 : Nat), .int .u32 (v5 : Nat), .int .u32 (v6 : Nat)] 187)).heap.size := Nat.le_trans S.out.size R9.out.size
    clear Q8 D8 R8 X8
    replace BC := Lib.hid BC
    go_upto_region 10 with (at_builtin; go_must (refine wpList_apEQ slRP rfl _ _ rfl w.heap.size (.slice so k co) k (repsN l k) rfl Q9.out _ rfl 1 [d0] [.int .u32 (v0 : Nat), .int .u8 (v1 : Nat), .int .i32 lo, .int .u32 (v3 : Nat), .int .u32 (v4 : Nat), .int .u32 (v5 : Nat), .int .u32 (v6 : Nat)] L9.out (EL.single hre.out.symm) rfl (by omega) hz9 (fun _ _ => trivial) ?_; intro s3 c3 w3 hc3 hm3 Q3 T3 hb3 G3; unfold maxLen at hm3; replace Q3 := Lib.hid Q3; replace T3 := Lib.hid T3))
    rw [← er.out] at Q3
    have D3 := Lib.hid (D9.out.st T3.out (fun q hq => by obtain ⟨cs, hcs⟩ := Q9.out.row q (by simpa using hq); exact ⟨_, _, _, hcs, by decide, by decide⟩))
    have S3 := Lib.hid ((S.out.trans R9.out).fresh T3.out (fun q hq => Q9.out.ge' q (by simpa using hq)))
    clear Q9 D9 R9 T3 G3 L9 hz9 hb3
    clear z0 z1 z2 z3 z4 z5 z6
    go_wp2_with fail
    go_roundg (cnt - (k + 1))
    case measure => omega
    case rel => exact ⟨k + 1, s3, c3, rfl, by omega, by first | rfl | (congr 1; omega), rfl, by omega, Q3, (by rw [hdn.out]; exact D3), S3⟩
   ·have d2 : decide ((8388608 : Int) ≤ (v2 : Int)) = false := by simp; omega
    have hlo : sgn24 v2 = (v2 : Int) := if_neg hs
    rw [hlo] at hre
    clear hlo
    go_upto_region 8 with (fail)
    generalize (v2 : Int) = lo at *
    go_wp2_with fail
    refine Calls.mono (h3 _ Dd.out).out ?_
    rintro e we ⟨rfl, De, Te⟩
    replace Rc := Lib.hid (Rc.out.trans Te)
    replace X := Lib.hid (X.out.st Te hgx)
    replace De := Lib.hid De
    clear Dd Te
    dsimp only
    go_wp2_with fail
    refine Calls.mono (h4 _ De.out).out ?_
    rintro e wf ⟨rfl, Df, Tf⟩
    replace Rc := Lib.hid (Rc.out.trans Tf)
    replace X := Lib.hid (X.out.st Tf hgx)
    replace Df := Lib.hid Df
    clear De Tf
    dsimp only
    go_wp2_with fail
    refine Calls.mono (h5 _ Df.out).out ?_
    rintro e wg ⟨rfl, Dg, Tg⟩
    replace Rc := Lib.hid (Rc.out.trans Tg)
    replace X := Lib.hid (X.out.st Tg hgx)
    replace Dg := Lib.hid Dg
    clear Df Tg
    dsimp only
    go_wp2_with fail
    refine Calls.mono (h6 _ Dg.out).out ?_
    rintro e wh ⟨rfl, Dh, Th⟩
    replace Rc := Lib.hid (Rc.out.trans Th)
    replace X := Lib.hid (X.out.st Th hgx)
    replace Dh := Lib.hid Dh
    clear Dg Th h0 h1 h2 h3 h4 h5 h6
    dsimp only
    have z0 := hp_cell (X.out) 0
    have y0 := hp_frz (X.out) 0
    have z1 := hp_cell (X.out) 1
    have y1 := hp_frz (X.out) 1
    have z2 := hp_cell (X.out) 2
    have y2 := hp_frz (X.out) 2
    have z3 := hp_cell (X.out) 3
    have y3 := hp_frz (X.out) 3
    have z4 := hp_cell (X.out) 4
    have y4 := hp_frz (X.out) 4
    have z5 := hp_cell (X.out) 5
    have y5 := hp_frz (X.out) 5
    have z6 := hp_cell (X.out) 6
    have y6 := hp_frz (X.out) 6
    simp only [List.getElem?_toArray, List.getElem?_cons_zero, List.getElem?_cons_succ] at z0 z1 z2 z3 z4 z5 z6
    have X8 : Hid (HpB (((((wh.setCell ⟨gx, 2, none⟩ (.int .i32 lo)).setCell ⟨gx, 3, none⟩ (.int .u32 (v3 : Nat))).setCell ⟨gx, 4, none⟩ (.int .u32 (v4 : Nat))).setCell ⟨gx, 5, none⟩ (.int .u32 (v5 : Nat))).setCell ⟨gx, 6, none⟩ (.int .u32 (v6 : Nat))) gx (.cells #[.int .u32 (v0 : Nat), .int .u8 (v1 : Nat), .int .i32 lo, .int .u32 (v3 : Nat), .int .u32 (v4 : Nat), .int .u32 (v5 : Nat), .int .u32 (v6 : Nat)] 187)) :=
     hp_set (hp_set (hp_set (hp_set (hp_set X.out 2 _) 3 _) 4 _) 5 _) 6 _
    have T8 : Still [gx] wh (((((wh.setCell ⟨gx, 2, none⟩ (.int .i32 lo)).setCell ⟨gx, 3, none⟩ (.int .u32 (v3 : Nat))).setCell ⟨gx, 4, none⟩ (.int .u32 (v4 : Nat))).setCell ⟨gx, 5, none⟩ (.int .u32 (v5 : Nat))).setCell ⟨gx, 6, none⟩ (.int .u32 (v6 : Nat))) :=
     ((((still_scB wh gx 2 _).trans (still_scB _ gx 3 _)).trans (still_scB _ gx 4 _)).trans (still_scB _ gx 5 _)).trans (still_scB _ gx 6 _)
    have D8 := Lib.hid (Dh.out.st T8 (fun q hq => by obtain rfl : q = gx := (by simpa using hq); exact ⟨_, _, _, X.out, by decide, by decide⟩))
    have hgd := D.out.row
    have Q7 := Q.out.still Rc.out (fun _ _ => trivial) (fun q hq hm => by obtain rfl : q = g := (by simpa using hm); obtain ⟨cs, hcs⟩ := hgd; exact Q.out.ne hcs (by decide) _ hq rfl)
    have Q8 := Lib.hid (Q7.still T8 (fun _ _ => trivial) (fun q hq hm => by obtain rfl : q = gx := (by simpa using hm); have := Q.out.lt' _ hq; omega))
    have R8 := Lib.hid (Rc.out.fresh T8 (fun q hq => by obtain rfl : q = gx := (by simpa using hq); exact hwx))
    clear hgd Q7 T8 Rc X Dh
    replace y0 := Lib.hid y0
    replace y1 := Lib.hid y1
    replace y2 := Lib.hid y2
    replace y3 := Lib.hid y3
    replace y4 := Lib.hid y4
    replace y5 := Lib.hid y5
    replace y6 := Lib.hid y6
    replace y2 := y2.out
    replace y3 := y3.out
    replace y4 := y4.out
    replace y5 := y5.out
    replace y6 := y6.out
    go_upto_region 9 with (fail)
    generalize ((((wh.setCell ⟨gx, 2, none⟩ (.int .i32 lo)).setCell ⟨gx, 3, none⟩ (.int .u32 (v3 : Nat))).setCell ⟨gx, 4, none⟩ (.int .u32 (v4 : Nat))).setCell ⟨gx, 5, none⟩ (.int .u32 (v5 : Nat))).setCell ⟨gx, 6, none⟩ (.int .u32 (v6 : Nat)) = w8 at *
    clear z0 z1 z2 z3 z4 z5 z6 y0 y1 y2 y3 y4 y5 y6
    have z0 := hp_cell (X8.out) 0
    have z1 := hp_cell (X8.out) 1
    have z2 := hp_cell (X8.out) 2
    have z3 := hp_cell (X8.out) 3
    have z4 := hp_cell (X8.out) 4
    have z5 := hp_cell (X8.out) 5
    have z6 := hp_cell (X8.out) 6
    simp only [List.getElem?_toArray, List.getElem?_cons_zero, List.getElem?_cons_succ] at z0 z1 z2 z3 z4 z5 z6
    have BC : BW w8 (w8.alloc (.cells #[.int .u32 (v0 : Nat), .int .u8 (v1 : Nat), .int .i32 lo, .int .u32 (v3 : Nat), .int .u32 (v4 : Nat), .int .u32 (v5 : Nat), .int .u32 (v6 : Nat)] 187)) := (BW.refl _).alloc
    have L9 := Lib.hid (Sls.new1 (E := RP) w8 187 [.int .u32 (v0 : Nat), .int .u8 (v1 : Nat), .int .i32 lo, .int .u32 (v3 : Nat), .int .u32 (v4 : Nat), .int .u32 (v5 : Nat), .int .u32 (v6 : Nat)] rfl)
    have Q9 := Lib.hid (Q8.out.bw BC)
    have D9 := Lib.hid (D8.out.bw BC)
    have R9 := Lib.hid (R8.out.trans (BC.still [g]))
    have hz9 : w.heap.size ≤ (w8.alloc (.cells #[.int .u32 (v0 : Nat), .int .u8 (v1 : Nat), .int .i32 lo, .int .u32 (v3 : Nat), .int .u32 (v4 : Nat), .int .u32 (v5 : Nat), .int .u32 (v6 : Nat)] 187)).heap.size := Nat.le_trans S.out.size R9.out.size
    clear Q8 D8 R8 X8
    replace BC := Lib.hid BC
    go_upto_region 10 with (at_builtin; go_must (refine wpList_apEQ slRP rfl _ _ rfl w.heap.size (.slice so k co) k (repsN l k) rfl Q9.out _ rfl 1 [d0] [.int .u32 (v0 : Nat), .int .u8 (v1 : Nat), .int .i32 lo, .int .u32 (v3 : Nat), .int .u32 (v4 : Nat), .int .u32 (v5 : Nat), .int .u32 (v6 : Nat)] L9.out (EL.single hre.out.symm) rfl (by omega) hz9 (fun _ _ => trivial) ?_; intro s3 c3 w3 hc3 hm3 Q3 T3 hb3 G3; unfold maxLen at hm3; replace Q3 := Lib.hid Q3; replace T3 := Lib.hid T3))
    rw [← er.out] at Q3
    have D3 := Lib.hid (D9.out.st T3.out (fun q hq => by obtain ⟨cs, hcs⟩ := Q9.out.row q (by simpa using hq); exact ⟨_, _, _, hcs, by decide, by decide⟩))
    have S3 := Lib.hid ((S.out.trans R9.out).fresh T3.out (fun q hq => Q9.out.ge' q (by simpa using hq)))
    clear Q9 D9 R9 T3 G3 L9 hz9 hb3
    clear z0 z1 z2 z3 z4 z5 z6
    go_wp2_with fail
    go_roundg (cnt - (k + 1))
    case measure => omega
    case rel => exact ⟨k + 1, s3, c3, rfl, by omega, by first | rfl | (congr 1; omega), rfl, by omega, Q3, (by rw [hdn.out]; exact D3), S3⟩
  ·obtain rfl : k = cnt := by omega
   have d1 : decide ((k : Int) < (k : Int)) = false := by simp
   go_wp2_with fail
   go_ret
   exact ⟨so, co, rfl, Q.out, D.out, S.out⟩
end Go.Proofs.Ytcempndfbckcaaa

namespace Go.Proofs.Ytcempndfbckcaaa
open Go.RowKit
structure Rep where
 s : Nat
 f : Nat
 lost : Int
 h : Nat
 j : Nat
 l : Nat
 d : Nat
def repV (r : Rep) : List Value := [.int .u32 (r.s : Nat), .int .u8 (r.f : Nat), .int .i32 r.lost, .int .u32 (r.h : Nat), .int .u32 (r.j : Nat), .int .u32 (r.l : Nat), .int .u32 (r.d : Nat)]
def namV (p : Nat × List Nat) : List Value := [.int .u32 (p.1 : Nat), .string (bstr p.2)]
def srcV (x : Nat) : List Value := [.int .u32 (x : Nat)]
def lossV (p : Nat × Nat) : List Value := [.int .u16 (p.1 : Nat), .int .u16 (p.2 : Nat)]
def firV (p : Nat × Nat) : List Value := [.int .u32 (p.1 : Nat), .int .u8 (p.2 : Nat)]
def u16V (x : Nat) : List Value := [.int .u16 (x : Nat)]
def ER : Elt Rep := pureE 7 repV (by decide) (fun _ => rfl) (fun r u hu => by simp only [repV, List.mem_cons, List.not_mem_nil, or_false] at hu; rcases hu with rfl | rfl | rfl | rfl | rfl | rfl | rfl <;> rfl)
def EM : Elt (Nat × List Nat) := pureE 2 namV (by decide) (fun _ => rfl) (fun r u hu => by simp only [namV, List.mem_cons, List.not_mem_nil, or_false] at hu; rcases hu with rfl | rfl <;> rfl)
def ES : Elt Nat := pureE 1 srcV (by decide) (fun _ => rfl) (fun r u hu => by simp only [srcV, List.mem_cons, List.not_mem_nil, or_false] at hu; rw [hu]; rfl)
def EO : Elt (Nat × Nat) := pureE 2 lossV (by decide) (fun _ => rfl) (fun r u hu => by simp only [lossV, List.mem_cons, List.not_mem_nil, or_false] at hu; rcases hu with rfl | rfl <;> rfl)
def EF : Elt (Nat × Nat) := pureE 2 firV (by decide) (fun _ => rfl) (fun r u hu => by simp only [firV, List.mem_cons, List.not_mem_nil, or_false] at hu; rcases hu with rfl | rfl <;> rfl)
def U1N : Elt Nat := pureE 1 u16V (by decide) (fun _ => rfl) (fun r u hu => by simp only [u16V, List.mem_cons, List.not_mem_nil, or_false] at hu; rw [hu]; rfl)
theorem slEM : SlTy Try.prog 108 148 2 24 := SlTy.mk' Try.underlying108 (by kernel_rfl) (by decide)
theorem slES : SlTy Try.prog 33 73 1 4 := SlTy.mk' Try.underlying33 (by kernel_rfl) (by decide)
theorem slEO : SlTy Try.prog 24 30 2 4 := SlTy.mk' Try.underlying24 (by kernel_rfl) (by decide)
theorem slEF : SlTy Try.prog 109 194 2 8 := SlTy.mk' Try.underlying109 (by kernel_rfl) (by decide)
def repOf (d : List Nat) : Rep :=
 ⟨numB (d.take 4), numB ((d.drop 4).take 1), sgn24 (numB (((d.drop 4).drop 1).take 3)), numB ((((d.drop 4).drop 1).drop 3).take 4), numB (((((d.drop 4).drop 1).drop 3).drop 4).take 4), numB ((((((d.drop 4).drop 1).drop 3).drop 4).drop 4).take 4), numB (((((((d.drop 4).drop 1).drop 3).drop 4).drop 4).drop 4).take 4)⟩
theorem EQ.maps {α β : Type} {E : Elt α} {F : Elt β} {T : TypeId} {w : World} {base : Nat} {v : Value} {n : Nat} {l : List α} (h : EQ E T w base v n l) (f : α → β) (hs : E.size = F.size) (hR : ∀ a c, E.R w base a c → F.R w base (f a) c) : EQ F T w base v n (l.map f) := by
 obtain ⟨h1, xs, h2, h3⟩ := h
 refine ⟨by rw [List.length_map, h1], xs, by rw [← hs]; exact h2, ?_⟩
 have key : ∀ (l : List α) (xs : List Value), EL E w base l xs → EL F w base (l.map f) xs := by
  intro l
  induction l with
  | nil => exact fun xs h => h
  | cons a l ih => exact fun xs ⟨c, xs', e, k1, k2⟩ => ⟨c, xs', e, hR a c k1, ih _ k2⟩
 exact key l xs h3
theorem EQ.reps {w : World} {base : Nat} {v : Value} {n : Nat} {l : List (List Nat)} (h : EQ RP 187 w base v n l) : EQ ER 187 w base v n (l.map repOf) := h.maps repOf rfl fun _ _ e => e
structure Ctl where
 k : Int
 s : Nat
 m : Nat
 t : Nat
 st : Nat
 pk : Nat
 oc : Nat
 reps : List Rep
 nams : List (Nat × List Nat)
 srcs : List Nat
 loss : List (Nat × Nat)
 firs : List (Nat × Nat)
 rt : Nat
def ctlC (c : Ctl) (vr vn vs vl vf : Value) : List Value := [.int .i64 c.k, .int .u32 (c.s : Nat), .int .u32 (c.m : Nat), .int .u64 (c.t : Nat), .int .u32 (c.st : Nat), .int .u32 (c.pk : Nat), .int .u32 (c.oc : Nat), vr, vn, vs, vl, vf, .int .u64 (c.rt : Nat)]
theorem EQ.slc {α : Type} {E : Elt α} {T : TypeId} {w : World} {base : Nat} {v : Value} {n : Nat} {l : List α} (h : EQ E T w base v n l) : v.oneCell' = true := by
 obtain ⟨sa, cap, rfl, _, _⟩ := h.len
 rfl
def NoL (w : World) (k : Nat) : Prop := w.heap.size ≤ k ∨ ∃ cs t f, w.heap[k]? = some (.cells cs t f) ∧ t ≠ 187 ∧ t ≠ 148 ∧ t ≠ 73 ∧ t ≠ 30 ∧ t ≠ 194
theorem EQ.apart {α : Type} {E : Elt α} {T : TypeId} {w : World} {base : Nat} {v : Value} {n : Nat} {l : List α} (h : EQ E T w base v n l) {S : List Nat} (hS : ∀ k ∈ S, w.heap.size ≤ k ∨ ∃ cs t f, w.heap[k]? = some (.cells cs t f) ∧ t ≠ T) : ∀ g, v.ownBlock = some g → g ∉ S := fun g hg hm => by
 rcases hS g hm with hk | ⟨cs, t, f, h1, h2⟩
 ·have := h.lt' g hg; omega
 ·exact h.ne h1 h2 g hg rfl
structure CtlV (w : World) (base : Nat) (c : Ctl) (vr vn vs vl vf : Value) : Prop where
 r : EQ ER 187 w base vr c.reps.length c.reps
 n : EQ EM 148 w base vn c.nams.length c.nams
 s : EQ ES 73 w base vs c.srcs.length c.srcs
 l : EQ EO 30 w base vl c.loss.length c.loss
 f : EQ EF 194 w base vf c.firs.length c.firs
theorem CtlV.bw {w w' : World} {base : Nat} {c : Ctl} {vr vn vs vl vf : Value} (h : CtlV w base c vr vn vs vl vf) (hb : BW w w') : CtlV w' base c vr vn vs vl vf := ⟨h.r.bw hb, h.n.bw hb, h.s.bw hb, h.l.bw hb, h.f.bw hb⟩
theorem CtlV.up {w : World} {base base' : Nat} {c : Ctl} {vr vn vs vl vf : Value} (h : CtlV w base c vr vn vs vl vf) (hb : base' ≤ base) : CtlV w base' c vr vn vs vl vf := ⟨h.r.up hb, h.n.up hb, h.s.up hb, h.l.up hb, h.f.up hb⟩
theorem CtlV.still {w w' : World} {base : Nat} {c : Ctl} {vr vn vs vl vf : Value} (h : CtlV w base c vr vn vs vl vf) {S : List Nat} (hs : Still S w w') (hS : ∀ k ∈ S, NoL w k) : CtlV w' base c vr vn vs vl vf := by
 refine ⟨h.r.still hs (fun _ _ => trivial) (h.r.apart fun k hk => ?_), h.n.still hs (fun _ _ => trivial) (h.n.apart fun k hk => ?_), h.s.still hs (fun _ _ => trivial) (h.s.apart fun k hk => ?_), h.l.still hs (fun _ _ => trivial) (h.l.apart fun k hk => ?_), h.f.still hs (fun _ _ => trivial) (h.f.apart fun k hk => ?_)⟩ <;>
 ·rcases hS k hk with hk | ⟨cs, t, f, h1, h2, h3, h4, h5, h6⟩
  ·exact .inl hk
  ·exact .inr ⟨cs, t, f, h1, by assumption⟩
theorem CtlV.old {w w' : World} {base : Nat} {c : Ctl} {vr vn vs vl vf : Value} (h : CtlV w base c vr vn vs vl vf) {S : List Nat} (hs : Still S w w') (hS : ∀ k ∈ S, k < base) : CtlV w' base c vr vn vs vl vf :=
 ⟨h.r.old hs hS, h.n.old hs hS, h.s.old hs hS, h.l.old hs hS, h.f.old hs hS⟩
def EC : Elt Ctl where
 size := 13
 R := fun w b c cs => ∃ vr vn vs vl vf, cs = ctlC c vr vn vs vl vf ∧ CtlV w b c vr vn vs vl vf
 Ok := NoL
 pos := by decide
 len := fun ⟨_, _, _, _, _, e, _⟩ => by rw [e]; rfl
 one := fun ⟨_, _, _, _, _, e, h⟩ u hu => by
  rw [e] at hu
  simp only [ctlC, List.mem_cons, List.not_mem_nil, or_false] at hu
  rcases hu with rfl | rfl | rfl | rfl | rfl | rfl | rfl | rfl | rfl | rfl | rfl | rfl | rfl <;> first | rfl | exact h.r.slc | exact h.n.slc | exact h.s.slc | exact h.l.slc | exact h.f.slc
 bw := fun ⟨a, b, c, d, e, h1, h2⟩ hb => ⟨a, b, c, d, e, h1, h2.bw hb⟩
 up := fun ⟨a, b, c, d, e, h1, h2⟩ hb => ⟨a, b, c, d, e, h1, h2.up hb⟩
 still := fun ⟨a, b, c, d, e, h1, h2⟩ hs hS => ⟨a, b, c, d, e, h1, h2.still hs hS⟩
 old := fun ⟨a, b, c, d, e, h1, h2⟩ hs hS => ⟨a, b, c, d, e, h1, h2.old hs hS⟩
theorem slEC : SlTy Try.prog 95 111 13 168 := SlTy.mk' Try.underlying95 (by kernel_rfl) (by decide)
end Go.Proofs.Ytcempndfbckcaaa

namespace Go.Proofs.Ytcempndfbckcaaa
open Go.RowKit
def zCtl : Ctl := ⟨0, 0, 0, 0, 0, 0, 0, [], [], [], [], [], 0⟩
abbrev ctlO (l : List Value) : Obj := .cells l.toArray 111
def ReadsTo (F : FuncId) (cnt : Nat) (l : List Nat) (c : Ctl) : Prop := ∀ (base g : Nat) (w : World), BdV w base g cnt l →
 Calls Try.prog F #[.pointer (some ⟨g, 0, none⟩)] w fun e w' => ∃ vr vn vs vl vf, e = .returned (.agg (ctlC c vr vn vs vl vf).toArray) ∧ CtlV w' w.heap.size c vr vn vs vl vf ∧ BdV w' base g cnt [] ∧ Still [g] w w'
theorem CtlV.nils (w : World) (base : Nat) (c : Ctl) (h1 : c.reps = []) (h2 : c.nams = []) (h3 : c.srcs = []) (h4 : c.loss = []) (h5 : c.firs = []) : CtlV w base c (.slice none 0 0) (.slice none 0 0) (.slice none 0 0) (.slice none 0 0) (.slice none 0 0) :=
 ⟨by rw [h1]; exact EQ.nil _ _ _ _, by rw [h2]; exact EQ.nil _ _ _ _, by rw [h3]; exact EQ.nil _ _ _ _, by rw [h4]; exact EQ.nil _ _ _ _, by rw [h5]; exact EQ.nil _ _ _ _⟩
theorem Still.new {S : List Nat} {a b c : World} (h : Still S a b) (k : BW b c) : Still S a c := h.trans (k.still S)
theorem still_st13 (w : World) (z : Nat) (v0 v1 v2 v3 v4 v5 v6 v7 v8 v9 v10 v11 v12 : Value) : Still [z] w (((((((((((((w.setCell ⟨z, 0, none⟩ v0).setCell ⟨z, 1, none⟩ v1).setCell ⟨z, 2, none⟩ v2).setCell ⟨z, 3, none⟩ v3).setCell ⟨z, 4, none⟩ v4).setCell ⟨z, 5, none⟩ v5).setCell ⟨z, 6, none⟩ v6).setCell ⟨z, 7, none⟩ v7).setCell ⟨z, 8, none⟩ v8).setCell ⟨z, 9, none⟩ v9).setCell ⟨z, 10, none⟩ v10).setCell ⟨z, 11, none⟩ v11).setCell ⟨z, 12, none⟩ v12) := (((((((((((((still_sc w z 0 v0).trans (still_sc _ z 1 v1)).trans (still_sc _ z 2 v2)).trans (still_sc _ z 3 v3)).trans (still_sc _ z 4 v4)).trans (still_sc _ z 5 v5)).trans (still_sc _ z 6 v6)).trans (still_sc _ z 7 v7)).trans (still_sc _ z 8 v8)).trans (still_sc _ z 9 v9)).trans (still_sc _ z 10 v10)).trans (still_sc _ z 11 v11)).trans (still_sc _ z 12 v12))
theorem st13_arr (c : Array Value) (hc : c.size = 13) (v0 v1 v2 v3 v4 v5 v6 v7 v8 v9 v10 v11 v12 : Value) : (((((((((((((c.setIfInBounds 0 v0).setIfInBounds 1 v1).setIfInBounds 2 v2).setIfInBounds 3 v3).setIfInBounds 4 v4).setIfInBounds 5 v5).setIfInBounds 6 v6).setIfInBounds 7 v7).setIfInBounds 8 v8).setIfInBounds 9 v9).setIfInBounds 10 v10).setIfInBounds 11 v11).setIfInBounds 12 v12) = #[v0, v1, v2, v3, v4, v5, v6, v7, v8, v9, v10, v11, v12] := by
 obtain ⟨l⟩ := c
 match l, hc with
 | [_, _, _, _, _, _, _, _, _, _, _, _, _], _ => simp only [List.setIfInBounds_toArray, List.set_cons_zero, List.set_cons_succ]
theorem HpB.st13 {w : World} {z : Nat} {c : Array Value} {T : TypeId} (h : HpB w z (.cells c T)) (hc : c.size = 13) (v0 v1 v2 v3 v4 v5 v6 v7 v8 v9 v10 v11 v12 : Value) : HpB (((((((((((((w.setCell ⟨z, 0, none⟩ v0).setCell ⟨z, 1, none⟩ v1).setCell ⟨z, 2, none⟩ v2).setCell ⟨z, 3, none⟩ v3).setCell ⟨z, 4, none⟩ v4).setCell ⟨z, 5, none⟩ v5).setCell ⟨z, 6, none⟩ v6).setCell ⟨z, 7, none⟩ v7).setCell ⟨z, 8, none⟩ v8).setCell ⟨z, 9, none⟩ v9).setCell ⟨z, 10, none⟩ v10).setCell ⟨z, 11, none⟩ v11).setCell ⟨z, 12, none⟩ v12) z (.cells #[v0, v1, v2, v3, v4, v5, v6, v7, v8, v9, v10, v11, v12] T) := by
 have k := (hp_set (hp_set (hp_set (hp_set (hp_set (hp_set (hp_set (hp_set (hp_set (hp_set (hp_set (hp_set (hp_set h 0 v0) 1 v1) 2 v2) 3 v3) 4 v4) 5 v5) 6 v6) 7 v7) 8 v8) 9 v9) 10 v10) 11 v11) 12 v12)
 rw [st13_arr c hc] at k
 exact k
set_option maxRecDepth 100000 in
set_option maxHeartbeats 8000000 in
theorem receiver_ok (cnt : Nat) (l : List Nat) (hc : cnt ≤ 16) (hl : l.length = 4 + 24 * cnt) :
  ReadsTo 133 cnt l ⟨201, numB (l.take 4), 0, 0, 0, 0, 0, (repsN (l.drop 4) cnt).map repOf, [], [], [], [], 0⟩ := by
 intro base g w hr
 have cw := fun w h => Lib.hid (bword_ok base g cnt l (by omega) (by omega) w h)
 have hd : (l.drop 4).length = 24 * cnt := by rw [List.length_drop]; omega
 have cr := fun w h => Lib.hid (reports_ok base g cnt (l.drop 4) hc (by omega) (by omega) w h)
 have hdd : (l.drop 4).drop (24 * cnt) = [] := List.drop_of_length_le (by omega)
 rw [hdd] at cr
 have hlr : ((repsN (l.drop 4) cnt).map repOf).length = cnt := by simp [repsN]
 have hq := fun w b v h => Lib.hid (EQ.reps (w := w) (base := b) (v := v) (n := cnt) (l := repsN (l.drop 4) cnt) h)
 generalize hs : numB (l.take 4) = s at *
 generalize hz : repsN (l.drop 4) cnt = ds at *
 generalize l.drop 4 = l1 at *
 clear hs hz hd hdd
 have hlt := hr.lt
 have BA : BW w (w.alloc (ctlO (ctlC zCtl (.slice none 0 0) (.slice none 0 0) (.slice none 0 0) (.slice none 0 0) (.slice none 0 0)))) := (BW.refl _).alloc
 have X1 := Lib.hid (HpB.new w (ctlO (ctlC zCtl (.slice none 0 0) (.slice none 0 0) (.slice none 0 0) (.slice none 0 0) (.slice none 0 0))))
 have D1 := Lib.hid (hr.bw BA)
 have R1 := Lib.hid (BA.still [g])
 simp only [ctlO, ctlC, zCtl] at X1 BA D1 R1
 go_enter Try.func133, Try.ntmps133
 go_upto_region 1 with (fail)
 generalize (w.alloc _) = w1 at *
 generalize hw0 : w.heap.size = g1 at *
 replace hw0 := Lib.hid hw0
 have hg1 : g1 ∉ [g] := by simp; omega
 clear BA
 go_wp2_with fail
 refine Calls.mono (cw _ D1.out).out ?_
 rintro e w2 ⟨rfl, D2, T2⟩
 have X2 := Lib.hid (X1.out.st T2 hg1)
 have R2 := Lib.hid (R1.out.trans T2)
 have hlt1 := X1.out.lt
 have hlt2 := T2.size
 replace D2 := Lib.hid D2
 clear D1 X1 R1 cw T2
 dsimp only
 have BC : BW w2 (w2.alloc (.cells #[.int .i64 201, .int .u32 (s : Nat), .int .u32 0, .int .u64 0, .int .u32 0, .int .u32 0, .int .u32 0, .slice none 0 0, .slice none 0 0, .slice none 0 0, .slice none 0 0, .slice none 0 0, .int .u64 0] 111)) := (BW.refl _).alloc
 have Y3 := Lib.hid (HpB.new w2 (.cells #[.int .i64 201, .int .u32 (s : Nat), .int .u32 0, .int .u64 0, .int .u32 0, .int .u32 0, .int .u32 0, .slice none 0 0, .slice none 0 0, .slice none 0 0, .slice none 0 0, .slice none 0 0, .int .u64 0] 111))
 have X3 := Lib.hid (X2.out.bw BC)
 have D3 := Lib.hid (D2.out.bw BC)
 have R3 := Lib.hid (R2.out.new BC)
 clear X2 D2 R2
 replace BC := Lib.hid BC
 go_upto_region 2 with (fail)
 generalize (w2.alloc _) = w3 at *
 have hlt3 : g1 < w2.heap.size := by omega
 generalize w2.heap.size = g3 at *
 have hg3 : g3 ∉ [g] := by simp; omega
 have h31 : g3 ≠ g1 := by omega
 have hlt4 := Y3.out.lt
 clear BC hlt1 hlt2
 go_wp2_with fail
 refine Calls.mono (cr _ D3.out).out ?_
 rintro e w4 ⟨so, co, rfl, Q4, D4, T4⟩
 have X4 := Lib.hid (X3.out.st T4 hg1)
 have Y4 := Lib.hid (Y3.out.st T4 hg3)
 have R4 := Lib.hid (R3.out.trans T4)
 replace Q4 := Lib.hid Q4
 replace D4 := Lib.hid D4
 clear X3 Y3 R3 D3 T4 cr
 dsimp only
 have z0 := hp_cell (Y4.out) 0
 have y0 := hp_frz (Y4.out) 0
 have z1 := hp_cell (Y4.out) 1
 have y1 := hp_frz (Y4.out) 1
 have z2 := hp_cell (Y4.out) 2
 have y2 := hp_frz (Y4.out) 2
 have z3 := hp_cell (Y4.out) 3
 have y3 := hp_frz (Y4.out) 3
 have z4 := hp_cell (Y4.out) 4
 have y4 := hp_frz (Y4.out) 4
 have z5 := hp_cell (Y4.out) 5
 have y5 := hp_frz (Y4.out) 5
 have z6 := hp_cell (Y4.out) 6
 have y6 := hp_frz (Y4.out) 6
 have z7 := hp_cell (Y4.out) 7
 have y7 := hp_frz (Y4.out) 7
 have z8 := hp_cell (Y4.out) 8
 have y8 := hp_frz (Y4.out) 8
 have z9 := hp_cell (Y4.out) 9
 have y9 := hp_frz (Y4.out) 9
 have z10 := hp_cell (Y4.out) 10
 have y10 := hp_frz (Y4.out) 10
 have z11 := hp_cell (Y4.out) 11
 have y11 := hp_frz (Y4.out) 11
 have z12 := hp_cell (Y4.out) 12
 have y12 := hp_frz (Y4.out) 12
 simp only [List.getElem?_toArray, List.getElem?_cons_zero, List.getElem?_cons_succ] at z0 z1 z2 z3 z4 z5 z6 z7 z8 z9 z10 z11 z12
 have TS := still_sc w4 g3 7 (.slice so cnt co)
 have Y5 : Hid (HpB (w4.setCell ⟨g3, 7, none⟩ (.slice so cnt co)) g3 (.cells #[.int .i64 201, .int .u32 (s : Nat), .int .u32 0, .int .u64 0, .int .u32 0, .int .u32 0, .int .u32 0, .slice so cnt co, .slice none 0 0, .slice none 0 0, .slice none 0 0, .slice none 0 0, .int .u64 0] 111)) := hp_set Y4.out 7 _
 have X5 := Lib.hid (X4.out.st TS (by simpa using h31.symm))
 have D5 := Lib.hid (D4.out.st TS (fun k hk => by obtain rfl : k = g3 := (by simpa using hk); exact ⟨_, _, _, Y4.out, by decide, by decide⟩))
 have Q5 := Lib.hid (Q4.out.old TS (fun k hk => by obtain rfl : k = g3 := (by simpa using hk); exact hlt4))
 have R5 := Lib.hid (R4.out.fresh TS (fun k hk => by obtain rfl : k = g3 := (by simpa using hk); have := hw0.out; omega))
 clear X4 D4 Q4 R4 TS Y4
 replace y0 := Lib.hid y0
 replace y1 := Lib.hid y1
 replace y2 := Lib.hid y2
 replace y3 := Lib.hid y3
 replace y4 := Lib.hid y4
 replace y5 := Lib.hid y5
 replace y6 := Lib.hid y6
 replace y8 := Lib.hid y8
 replace y9 := Lib.hid y9
 replace y10 := Lib.hid y10
 replace y11 := Lib.hid y11
 replace y12 := Lib.hid y12
 replace z0 := Lib.hid z0
 replace z1 := Lib.hid z1
 replace z2 := Lib.hid z2
 replace z3 := Lib.hid z3
 replace z4 := Lib.hid z4
 replace z5 := Lib.hid z5
 replace z6 := Lib.hid z6
 replace z8 := Lib.hid z8
 replace z9 := Lib.hid z9
 replace z10 := Lib.hid z10
 replace z11 := Lib.hid z11
 replace z12 := Lib.hid z12
 go_upto_region 3 with (fail)
 generalize w4.setCell ⟨g3, 7, none⟩ (.slice so cnt co) = w5 at *
 clear y0 y1 y2 y3 y4 y5 y6 y7 y8 y9 y10 y11 y12 z0 z1 z2 z3 z4 z5 z6 z7 z8 z9 z10 z11 z12
 have u0 := hp_cell (Y5.out) 0
 have u1 := hp_cell (Y5.out) 1
 have u2 := hp_cell (Y5.out) 2
 have u3 := hp_cell (Y5.out) 3
 have u4 := hp_cell (Y5.out) 4
 have u5 := hp_cell (Y5.out) 5
 have u6 := hp_cell (Y5.out) 6
 have u7 := hp_cell (Y5.out) 7
 have u8 := hp_cell (Y5.out) 8
 have u9 := hp_cell (Y5.out) 9
 have u10 := hp_cell (Y5.out) 10
 have u11 := hp_cell (Y5.out) 11
 have u12 := hp_cell (Y5.out) 12
 simp only [List.getElem?_toArray, List.getElem?_cons_zero, List.getElem?_cons_succ] at u0 u1 u2 u3 u4 u5 u6 u7 u8 u9 u10 u11 u12
 have z0 := hp_cell (X5.out) 0
 have y0 := hp_frz (X5.out) 0
 have z1 := hp_cell (X5.out) 1
 have y1 := hp_frz (X5.out) 1
 have z2 := hp_cell (X5.out) 2
 have y2 := hp_frz (X5.out) 2
 have z3 := hp_cell (X5.out) 3
 have y3 := hp_frz (X5.out) 3
 have z4 := hp_cell (X5.out) 4
 have y4 := hp_frz (X5.out) 4
 have z5 := hp_cell (X5.out) 5
 have y5 := hp_frz (X5.out) 5
 have z6 := hp_cell (X5.out) 6
 have y6 := hp_frz (X5.out) 6
 have z7 := hp_cell (X5.out) 7
 have y7 := hp_frz (X5.out) 7
 have z8 := hp_cell (X5.out) 8
 have y8 := hp_frz (X5.out) 8
 have z9 := hp_cell (X5.out) 9
 have y9 := hp_frz (X5.out) 9
 have z10 := hp_cell (X5.out) 10
 have y10 := hp_frz (X5.out) 10
 have z11 := hp_cell (X5.out) 11
 have y11 := hp_frz (X5.out) 11
 have z12 := hp_cell (X5.out) 12
 have y12 := hp_frz (X5.out) 12
 simp only [List.getElem?_toArray, List.getElem?_cons_zero, List.getElem?_cons_succ] at z0 z1 z2 z3 z4 z5 z6 z7 z8 z9 z10 z11 z12
 have TS := still_st13 w5 g1 (.int .i64 201) (.int .u32 (s : Nat)) (.int .u32 0) (.int .u64 0) (.int .u32 0) (.int .u32 0) (.int .u32 0) (.slice so cnt co) (.slice none 0 0) (.slice none 0 0) (.slice none 0 0) (.slice none 0 0) (.int .u64 0)
 have D6 := Lib.hid (D5.out.st TS (fun k hk => by obtain rfl : k = g1 := (by simpa using hk); exact ⟨_, _, _, X5.out, by decide, by decide⟩))
 have Q6 := Lib.hid (Q5.out.old TS (fun k hk => by obtain rfl : k = g1 := (by simpa using hk); omega))
 have R6 := Lib.hid (R5.out.fresh TS (fun k hk => by obtain rfl : k = g1 := (by simpa using hk); have := hw0.out; omega))
 have X6 := Lib.hid (HpB.st13 X5.out rfl (.int .i64 201) (.int .u32 (s : Nat)) (.int .u32 0) (.int .u64 0) (.int .u32 0) (.int .u32 0) (.int .u32 0) (.slice so cnt co) (.slice none 0 0) (.slice none 0 0) (.slice none 0 0) (.slice none 0 0) (.int .u64 0))
 clear D5 Q5 R5 TS Y5 X5
 go_wp2_with fail
 refine bodyPost_ret (results_cell_row (p := 2) rfl _ _ g1 _ _ _ _ rfl X6.out Try.underlying111 rfl (by kernel_rfl)) rfl ?_
 refine ⟨.slice so cnt co, .slice none 0 0, .slice none 0 0, .slice none 0 0, .slice none 0 0, rfl, ⟨?_, EQ.nil _ _ _ _, EQ.nil _ _ _ _, EQ.nil _ _ _ _, EQ.nil _ _ _ _⟩, D6.out, R6.out⟩
 dsimp only
 rw [hlr]
 exact (hq _ _ _ (Q6.out.up (by have := hw0.out; omega))).out
end Go.Proofs.Ytcempndfbckcaaa
