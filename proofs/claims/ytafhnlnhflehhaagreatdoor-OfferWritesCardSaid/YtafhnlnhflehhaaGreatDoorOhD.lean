/- The reference's Write (printed by wip/gen/genOhD.py). No condition but the sizes'. -/
import Derived.Test.YtafhnlnhflehhaaGreatDoorGHb
namespace Go.Proofs.YtafhnlnhflehhaaGreatDoor
open Go.RowKit
theorem joinC_snoc (c : UInt8) (x : BL) : ∀ {P : List BL}, P ≠ [] → joinC c (P ++ [x]) = joinC c P ++ c :: x
 | [], h => absurd rfl h
 | [a], _ => rfl
 | a :: b :: r, _ => by
  rw [List.cons_append, joinC_cons (by simp), joinC_cons (by simp), joinC_snoc c x (P := b :: r) (by simp)]
  simp
def srcP (l : List Nat) (j : Nat) : BL := joinC 44 ((l.take j).map Lib.decDigits)
theorem srcP_zero {l : List Nat} (h : 0 < l.length) : srcP l 1 = Lib.decDigits (l.getD 0 0) := by
 unfold srcP
 rw [List.take_succ_eq_append_getElem h, getD_lt h]; rfl
theorem srcP_succ {l : List Nat} {j : Nat} (h : j < l.length) (h0 : 0 < j) : srcP l (j + 1) = srcP l j ++ 44 :: Lib.decDigits (l.getD j 0) := by
 unfold srcP
 rw [List.take_succ_eq_append_getElem h, getD_lt h, List.map_append, List.map_singleton, joinC_snoc]
 intro e
 have := congrArg List.length e
 rw [List.length_map, List.length_take, List.length_nil] at this
 omega
theorem srcP_all (l : List Nat) : srcP l l.length = srcT l := by unfold srcP; rw [List.take_length, srcT_join]
theorem srcP_nil (l : List Nat) : srcP l 0 = [] := rfl
set_option maxRecDepth 100000 in
set_option maxHeartbeats 8000000 in
theorem rwrite_any (cs : Array Value) (d : OffD) (sW : Option Addr) (cW : Nat) (sH : Option Addr) (cH : Nat) (w : World) (h : OffV w cs d sW cW sH cH) (hM : MayO d) :
  Calls Tryz.prog 10 #[.agg cs] w fun e w' => (∃ S : ByteArray, S.data.toList = offT d ∧ S.size ≤ 1000 ∧ e = .returned (.string S)) ∧ BW w w' := by
 obtain ⟨rfl, hw, hh⟩ := h
 obtain ⟨seat, W, H⟩ := d
 dsimp only at hw hh ⊢
 obtain ⟨_, _, he, hWc, hWm⟩ := hw.len
 cases he
 obtain ⟨_, _, he, hHc, hHm⟩ := hh.len
 cases he
 unfold maxLen at hWm hHm
 obtain ⟨nW, hnW⟩ : ∃ n, W.length = n := ⟨_, rfl⟩
 obtain ⟨nH, hnHe⟩ : ∃ n, H.length = n := ⟨_, rfl⟩
 unfold offC
 dsimp only
 rw [hnW] at hw hWc ⊢
 rw [hnHe] at hh hHc ⊢
 have B := (BW.refl w).alloc (o := .cells #[.int .i64 seat, .slice sW nW cW, .slice sH nH cH] 25)
 have X := HpB.new w (.cells #[.int .i64 seat, .slice sW nW cW, .slice sH nH cH] 25)
 have hH := Lib.hid hh
 have hWQ := Lib.hid hw
 have hMay := Lib.hid hM
 clear hh hw
 have hsm : Sm seat := hM.1
 have hnW2 : nW ≤ 2 := by rw [← hnW]; exact hM.2.1.2.1
 have hnH4 : nH ≤ 4 := by rw [← hnHe]; exact hM.2.2.2
 clear hM
 obtain ⟨sn, rfl⟩ : ∃ n : Nat, seat = n := ⟨seat.toNat, by unfold Sm at hsm; omega⟩
 have hsn : sn ≤ 1048576 := by unfold Sm at hsm; omega
 clear hsm
 replace hnW := Lib.hid hnW
 replace hnHe := Lib.hid hnHe
 replace B := Lib.hid B
 replace X := Lib.hid X
 go_enter Tryz.func10, Tryz.ntmps10
 go_upto_region 1 with (fail)
 generalize w.alloc _ = w1 at *
 generalize w.heap.size = g at *
 have G := Lib.hid (HpB.new w1 (.cells #[.string ⟨#[112, 108, 97, 105, 110]⟩, .string ⟨#[118, 112, 56]⟩, .string ⟨#[97, 118, 99]⟩] 9))
 have hb := (BW.refl w1).alloc (o := .cells #[.string ⟨#[112, 108, 97, 105, 110]⟩, .string ⟨#[118, 112, 56]⟩, .string ⟨#[97, 118, 99]⟩] 9)
 replace B := Lib.hid (B.out.trans hb)
 replace X := Lib.hid (X.out.bw hb)
 clear hb
 go_upto_region 2 with (fail)
 generalize w1.alloc _ = w2 at *
 generalize w1.heap.size = gc at *
 have q0 := (hp_cell X.out 0).trans (show _ = some (.int .i64 (sn : Nat)) from rfl)
 have cS := Lib.hid (d_any sn hsn w2)
 have hl1 := dD_le hsn
 obtain ⟨sd, hsd⟩ : ∃ x, bS (Lib.decDigits sn) = x := ⟨_, rfl⟩
 rw [hsd] at cS
 have n1 : sd.size ≤ 7 := by rw [← hsd, bS_size]; exact hl1
 have a1 : ¬ 9223372036854775807 < 6 + sd.size := by omega
 have a2 : ¬ 9223372036854775807 < 6 + sd.size + 1 := by omega
 have n2 : (⟨#[111, 102, 102, 101, 114, 32]⟩ ++ sd ++ ⟨#[10]⟩ : ByteArray).size ≤ 14 := by rw [ba_sz, ba_sz]; show 6 + _ + 1 ≤ _; omega
 have hz2 : Hid ((⟨#[111, 102, 102, 101, 114, 32]⟩ ++ sd ++ ⟨#[10]⟩ : ByteArray).data.toList = seatT (sn : Nat)) := Lib.hid (by rw [ba_app, ba_app, ← hsd, bS_list]; rfl)
 replace hsd := Lib.hid hsd
 clear hl1
 go_wp2_with fail
 refine Calls.mono cS.out ?_
 rintro e w3 ⟨rfl, hbw⟩
 replace X := Lib.hid (X.out.bw hbw)
 replace G := Lib.hid (G.out.bw hbw)
 replace B := Lib.hid (B.out.trans hbw)
 clear hbw q0 cS
 dsimp only
 go_upto_region 4 with (fail)
 clear a1 a2
 go_loopg [4, 5] nW (fun m' v4 v5 wx => ∃ (k : Nat) (S : ByteArray), m' = nW - k ∧ k ≤ nW ∧ v5 = .int .i64 (k : Nat) ∧ v4 = .string S ∧ S.size ≤ 14 + 100 * k ∧ Hid (S.data.toList = seatT (sn : Nat) ++ (W.take k).flatMap wishT) ∧ Hid (HpB wx g (.cells #[.int .i64 (sn : Nat), .slice sW nW cW, .slice sH nH cH] 25)) ∧ Hid (HpB wx gc (.cells #[.string ⟨#[112, 108, 97, 105, 110]⟩, .string ⟨#[118, 112, 56]⟩, .string ⟨#[97, 118, 99]⟩] 9)) ∧ Hid (BW w wx))
 case atStart => exact ⟨0, _, by omega, by omega, rfl, rfl, n2, Lib.hid (by rw [hz2.out, List.take_zero, List.flatMap_nil, List.append_nil]), X, G, B⟩
 case round =>
  clear X G B hz2 n2 n1 hsd
  obtain ⟨k, S, rfl, hk, rfl, rfl, hSn, hS, X, G, B⟩ := hrel
  have q1 := (hp_cell X.out 1).trans (show _ = some (.slice sW nW cW) from rfl)
  by_cases hkn : k < nW
  ·have dk : decide ((k : Int) < (nW : Int)) = true := by simp; omega
   have hkL : k < W.length := by rw [hnW.out]; exact hkn
   have hOkW := hMay.out.2.1.1 k hkL
   have hws : ∀ x ∈ (wi W k).s, x < 1048576 := fun x hx => by
    obtain ⟨j, hj, rfl⟩ := List.mem_iff_getElem.1 hx
    exact hMay.out.2.1.2.2.2 _ (src_mem hkL hj)
   have hadd : Hid ((W.take (k + 1)).flatMap wishT = (W.take k).flatMap wishT ++ wishT (wi W k)) := Lib.hid (fm_take wishT (wi W) W (fun i h => wi_get h) hkL)
   obtain ⟨gw, ow, rfl, -, hc⟩ := wi_form hWQ.out (by omega)
   obtain ⟨sk, mk, ck, y0, y1, y2, hkq⟩ := hc k hkL
   rw [← wi_get hkL] at y0 y1 hkq
   have hmk : (wi W k).s.length = mk := hkq.1
   unfold OkW at hOkW
   obtain ⟨o1, o2, -, o4⟩ := hOkW
   rw [hmk] at o4
   replace hkq := Lib.hid hkq
   clear hc
   generalize wi W k = wk at *
   obtain ⟨t, c, ss⟩ := wk
   dsimp only at *
   obtain ⟨tn, rfl⟩ : ∃ n : Nat, t = n := ⟨t.toNat, by unfold Sm at o1; omega⟩
   obtain ⟨cn, rfl⟩ : ∃ n : Nat, c = n := ⟨c.toNat, by omega⟩
   have htn : tn ≤ 1048576 := by unfold Sm at o1; omega
   have hcn : cn < 3 := by omega
   clear o1 o2
   replace hws := Lib.hid hws
   replace hkL := Lib.hid hkL
   obtain ⟨_, _, he, hkc, hkm⟩ := hkq.out.len
   cases he
   unfold maxLen at hkm
   replace y0 := Lib.hid y0
   replace y1 := Lib.hid y1
   replace y2 := Lib.hid y2
   have cT := d_any tn htn
   have hl1 : (Lib.decDigits tn).length ≤ 7 := dD_le htn
   have hcl : (codT (cn : Nat)).length ≤ 5 := by unfold codT; split; decide; split <;> decide
   obtain ⟨bt, hbt⟩ : ∃ x, bS (Lib.decDigits tn) = x := ⟨_, rfl⟩
   obtain ⟨bc, hbc⟩ : ∃ x, bS (codT (cn : Nat)) = x := ⟨_, rfl⟩
   rw [hbt] at cT
   replace cT := Lib.hid cT
   have nt : bt.size ≤ 7 := by rw [← hbt, bS_size]; exact hl1
   have nc : bc.size ≤ 5 := by rw [← hbc, bS_size]; exact hcl
   have a1 : ¬ 9223372036854775807 < S.size + 6 := by omega
   have a2 : ¬ 9223372036854775807 < S.size + 6 + bt.size := by omega
   have a3 : ¬ 9223372036854775807 < S.size + 6 + bt.size + 1 := by omega
   have a4 : ¬ 9223372036854775807 < S.size + 6 + bt.size + 1 + bc.size := by omega
   have a5 : ¬ 9223372036854775807 < S.size + 6 + bt.size + 1 + bc.size + 1 := by omega
   have n6 : (S ++ ⟨#[116, 114, 97, 99, 107, 32]⟩ ++ bt ++ ⟨#[32]⟩ ++ bc ++ ⟨#[32]⟩ : ByteArray).size ≤ 34 + 100 * k := by
    simp only [ba_sz]
    show S.size + 6 + bt.size + 1 + bc.size + 1 ≤ _
    omega
   have hz6 : Hid ((S ++ ⟨#[116, 114, 97, 99, 107, 32]⟩ ++ bt ++ ⟨#[32]⟩ ++ bc ++ ⟨#[32]⟩ : ByteArray).data.toList = seatT (sn : Nat) ++ (W.take k).flatMap wishT ++ ([116, 114, 97, 99, 107, 32] ++ dT (tn : Nat) ++ [32] ++ codT (cn : Nat) ++ [32]) ++ srcP ss 0) := Lib.hid (by
    rw [srcP_nil, List.append_nil]
    simp only [ba_app, ← hbt, ← hbc, bS_list, hS.out]
    simp only [List.append_assoc]
    rfl)
   have hcod : Hid ((#[Value.string ⟨#[112, 108, 97, 105, 110]⟩, .string ⟨#[118, 112, 56]⟩, .string ⟨#[97, 118, 99]⟩] : Array Value)[cn]? = some (.string bc)) := Lib.hid (by
    rw [← hbc]
    have hcc : cn = 0 ∨ cn = 1 ∨ cn = 2 := by omega
    rcases hcc with rfl | rfl | rfl <;> rfl)
   clear hl1 hcl hS nt nc hbt hbc
   go_upto_region 6 with (fail)
   have mc : ∀ y : LaterS [] wr, _ := fun y => y.bw.cell ((hp_cell G.out cn).trans hcod.out)
   have m1 : ∀ y : LaterS [] wr, _ := fun y => y.bw.cell q1
   have n0 : ∀ y : LaterS [] wr, _ := fun y => y.bw.cell (B.out.cell y0.out)
   have n1 : ∀ y : LaterS [] wr, _ := fun y => y.bw.cell (B.out.cell y1.out)
   clear q1
   refine wp_region_gg [] [] [] (by kernel_rfl) ?_
   refine hoist [] [] (a1 := ?_) 0 rfl (by kernel_rfl) (.inl ⟨rfl, rfl⟩) rfl rfl rfl (fun x K hK => ?_) ?_
   rotate_left
   ·go_big_quiet_op
    exact hK
   refine hoist [] [] (a1 := ?_) 1 rfl (by kernel_rfl) (.inl ⟨rfl, rfl⟩) rfl rfl rfl (fun x K hK => ?_) ?_
   rotate_left
   ·go_big_quiet_op
    exact hK
   refine hoist [] [] (a1 := ?_) 2 rfl (by kernel_rfl) (.inl ⟨rfl, rfl⟩) rfl rfl rfl (fun x K hK => ?_) ?_
   rotate_left
   ·go_big_quiet_op
    exact hK
   refine hoist [] [] (a1 := ?_) 3 rfl (by kernel_rfl) (.inl ⟨rfl, rfl⟩) rfl rfl rfl (fun x K hK => ?_) ?_
   rotate_left
   ·go_big_quiet_op
    exact hK
   refine hoist [] [] (a1 := ?_) 4 rfl (by kernel_rfl) (.inl ⟨rfl, rfl⟩) rfl rfl rfl (fun x K hK => ?_) ?_
   rotate_left
   ·go_big_quiet_op
    exact hK
   refine hoist [] [] (a1 := ?_) 5 rfl (by kernel_rfl) (.inl ⟨rfl, rfl⟩) rfl rfl rfl (fun x K hK => ?_) ?_
   rotate_left
   ·go_big_quiet_op
    exact hK
   refine hoist [] [] (a1 := ?_) 6 rfl (by kernel_rfl) (.inl ⟨rfl, rfl⟩) rfl rfl rfl (fun x K hK => ?_) ?_
   rotate_left
   ·go_big_quiet_op
    exact hK
   refine hoist [] [] (a1 := ?_) 7 rfl (by kernel_rfl) (.inl ⟨rfl, rfl⟩) rfl rfl rfl (fun x K hK => ?_) ?_
   rotate_left
   ·go_big_quiet_op
    exact hK
   refine hoist_call [] [] (a1 := ?_) 8 rfl (by kernel_rfl) (.inl ⟨rfl, rfl⟩) rfl rfl rfl (fun x K hK => ?_) ?_
   rotate_left
   ·go_big_quiet_op
    apply Exists.intro
    refine ⟨fun y => ?_, ?_⟩
    ·exact Calls.laterS_of (cT.out y.now)
    ·exact hK
   refine hoist [] [] (a1 := ?_) 9 rfl (by kernel_rfl) (.inl ⟨rfl, rfl⟩) rfl rfl rfl (fun x K hK => ?_) ?_
   rotate_left
   ·go_big_quiet_op
    exact hK
   refine hoist [] [] (a1 := ?_) 10 rfl (by kernel_rfl) (.inl ⟨rfl, rfl⟩) rfl rfl rfl (fun x K hK => ?_) ?_
   rotate_left
   ·go_big_quiet_op
    exact hK
   refine hoist [] [] (a1 := ?_) 11 rfl (by kernel_rfl) (.inl ⟨rfl, rfl⟩) rfl rfl rfl (fun x K hK => ?_) ?_
   rotate_left
   ·go_big_quiet_op
    exact hK
   refine hoist [] [] (a1 := ?_) 12 rfl (by kernel_rfl) (.inl ⟨rfl, rfl⟩) rfl rfl rfl (fun x K hK => ?_) ?_
   rotate_left
   ·go_big_quiet_op
    exact hK
   refine hoist [] [] (a1 := ?_) 13 rfl (by kernel_rfl) (.inl ⟨rfl, rfl⟩) rfl rfl rfl (fun x K hK => ?_) ?_
   rotate_left
   ·go_big_quiet_op
    exact hK
   refine hoist [] [] (a1 := ?_) 14 rfl (by kernel_rfl) (.inl ⟨rfl, rfl⟩) rfl rfl rfl (fun x K hK => ?_) ?_
   rotate_left
   ·go_big_quiet_op
    exact hK
   refine hoist [] [] (a1 := ?_) 15 rfl (by kernel_rfl) (.inl ⟨rfl, rfl⟩) rfl rfl rfl (fun x K hK => ?_) ?_
   rotate_left
   ·go_big_quiet_op
    exact hK
   refine hoist [] [] (a1 := ?_) 16 rfl (by kernel_rfl) (.inl ⟨rfl, rfl⟩) rfl rfl rfl (fun x K hK => ?_) ?_
   rotate_left
   ·go_big_quiet_op
    exact hK
   refine hoist [] [] (a1 := ?_) 17 rfl (by kernel_rfl) (.inl ⟨rfl, rfl⟩) rfl rfl rfl (fun x K hK => ?_) ?_
   rotate_left
   ·go_big_quiet_op
    exact hK
   refine hoist [] [] (a1 := ?_) 18 rfl (by kernel_rfl) (.inl ⟨rfl, rfl⟩) rfl rfl rfl (fun x K hK => ?_) ?_
   rotate_left
   ·go_big_quiet_op
    exact hK
   refine hoist [] [] (a1 := ?_) 19 rfl (by kernel_rfl) (.inl ⟨rfl, rfl⟩) rfl rfl rfl (fun x K hK => ?_) ?_
   rotate_left
   ·go_big_quiet_op
    exact hK
   refine hoist [] [] (a1 := ?_) 20 rfl (by kernel_rfl) (.inl ⟨rfl, rfl⟩) rfl rfl rfl (fun x K hK => ?_) ?_
   rotate_left
   ·go_big_quiet_op
    exact hK
   refine hoist [] [] (a1 := ?_) 21 rfl (by kernel_rfl) (.inl ⟨rfl, rfl⟩) rfl rfl rfl (fun x K hK => ?_) ?_
   rotate_left
   ·go_big_quiet_op
    exact hK
   refine hoist [] [] (a1 := ?_) 22 rfl (by kernel_rfl) (.inl ⟨rfl, rfl⟩) rfl rfl rfl (fun x K hK => ?_) ?_
   rotate_left
   ·go_big_quiet_op
    exact hK
   refine done (by kernel_rfl) (fun xr => ?_)
   replace X := Lib.hid (X.out.bw xr.bw)
   replace G := Lib.hid (G.out.bw xr.bw)
   replace B := Lib.hid (B.out.trans xr.bw)
   clear mc m1 n0 n1 cT hcod a1 a2 a3 a4 a5
   generalize xr.now = w4 at *
   clear xr
   generalize (S ++ ⟨#[116, 114, 97, 99, 107, 32]⟩ ++ bt ++ ⟨#[32]⟩ ++ bc ++ ⟨#[32]⟩ : ByteArray) = T0 at *
   go_upto_region 8 with (fail)
   rename World => wo
   go_loopg [4, 6] mk (fun m' v4 v6 wx => ∃ (j : Nat) (T : ByteArray), m' = mk - j ∧ j ≤ mk ∧ v6 = .int .i64 (j : Nat) ∧ v4 = .string T ∧ T.size ≤ 34 + 100 * k + 8 * j ∧ Hid (T.data.toList = seatT (sn : Nat) ++ (W.take k).flatMap wishT ++ ([116, 114, 97, 99, 107, 32] ++ dT (tn : Nat) ++ [32] ++ codT (cn : Nat) ++ [32]) ++ srcP ss j) ∧ Hid (HpB wx g (.cells #[.int .i64 (sn : Nat), .slice (some ⟨gw, ow, none⟩) nW cW, .slice sH nH cH] 25)) ∧ Hid (HpB wx gc (.cells #[.string ⟨#[112, 108, 97, 105, 110]⟩, .string ⟨#[118, 112, 56]⟩, .string ⟨#[97, 118, 99]⟩] 9)) ∧ Hid (BW w wx))
   case atStart => exact ⟨0, T0, by omega, by omega, rfl, rfl, by omega, hz6, X, G, B⟩
   case round =>
    clear hz6 n6 X G B
    obtain ⟨j, T, rfl, hj, rfl, rfl, hTn, hT, X, G, B⟩ := hrel
    have q1 := (hp_cell X.out 1).trans (show _ = some (.slice (some ⟨gw, ow, none⟩) nW cW) from rfl)
    have q2 := B.out.cell y2.out
    by_cases hjm : j < mk
    ·have dj : decide ((j : Int) < (mk : Int)) = true := by simp; omega
     have hjl : j < ss.length := by rw [hmk]; exact hjm
     obtain ⟨gk, ok, rfl, hc⟩ := u4_cellS hkq.out (by omega)
     obtain ⟨xj, hxj⟩ : ∃ x, ss.getD j 0 = x := ⟨_, rfl⟩
     have hxb : xj ≤ 1048576 := by
      have := hws.out _ (List.getElem_mem hjl)
      rw [← getD_lt hjl, hxj] at this
      omega
     have zk := B.out.cell (hc j hjm)
     rw [hxj] at zk
     clear hc
     have hl1 := dD_le hxb
     have cX := d_any xj hxb
     obtain ⟨bx, hbx⟩ : ∃ x, bS (Lib.decDigits xj) = x := ⟨_, rfl⟩
     rw [hbx] at cX
     replace cX := Lib.hid cX
     have nx : bx.size ≤ 7 := by rw [← hbx, bS_size]; exact hl1
     clear hl1
     by_cases h0 : 0 < j
     ·have d0 : decide ((0 : Int) < (j : Int)) = true := decide_eq_true (by omega)
      have a1 : ¬ 9223372036854775807 < T.size + 1 := by omega
      have a2 : ¬ 9223372036854775807 < T.size + 1 + bx.size := by omega
      have n7 : Hid ((T ++ ⟨#[44]⟩ ++ bx : ByteArray).size ≤ 34 + 100 * k + 8 * (j + 1)) := Lib.hid (by
       simp only [ba_sz]
       show T.size + 1 + bx.size ≤ _
       omega)
      have hT7 : Hid ((T ++ ⟨#[44]⟩ ++ bx : ByteArray).data.toList = seatT (sn : Nat) ++ (W.take k).flatMap wishT ++ ([116, 114, 97, 99, 107, 32] ++ dT (tn : Nat) ++ [32] ++ codT (cn : Nat) ++ [32]) ++ srcP ss (j + 1)) := Lib.hid (by
       rw [srcP_succ hjl h0, hxj]
       simp only [ba_app, ← hbx, bS_list, hT.out]
       simp only [List.append_assoc]
       rfl)
      clear hT hbx nx
      replace hxj := Lib.hid hxj
      replace hjl := Lib.hid hjl
      go_wp2_with fail
      refine Calls.mono (cX.out _) ?_
      rintro e w5 ⟨rfl, hb⟩
      replace X := Lib.hid (X.out.bw hb)
      replace G := Lib.hid (G.out.bw hb)
      replace B := Lib.hid (B.out.trans hb)
      clear hb zk q1 q2 cX
      dsimp only
      go_wp2_with fail
      go_roundg (mk - (j + 1))
      case measure => omega
      case rel => exact ⟨j + 1, _, rfl, by omega, by first | rfl | (push_cast; rfl), rfl, n7.out, hT7, X, G, B⟩
     ·have d0 : decide ((0 : Int) < (j : Int)) = false := decide_eq_false (by omega)
      have a2 : ¬ 9223372036854775807 < T.size + bx.size := by omega
      have n7 : Hid ((T ++ bx : ByteArray).size ≤ 34 + 100 * k + 8 * (j + 1)) := Lib.hid (by
       simp only [ba_sz]
       omega)
      have hT7 : Hid ((T ++ bx : ByteArray).data.toList = seatT (sn : Nat) ++ (W.take k).flatMap wishT ++ ([116, 114, 97, 99, 107, 32] ++ dT (tn : Nat) ++ [32] ++ codT (cn : Nat) ++ [32]) ++ srcP ss (j + 1)) := Lib.hid (by
       obtain rfl : j = 0 := by omega
       rw [srcP_zero hjl, hxj, ba_app, ← hbx, bS_list, hT.out, srcP_nil, List.append_nil])
      clear hT hbx nx
      replace hxj := Lib.hid hxj
      replace hjl := Lib.hid hjl
      go_wp2_with fail
      refine Calls.mono (cX.out _) ?_
      rintro e w5 ⟨rfl, hb⟩
      replace X := Lib.hid (X.out.bw hb)
      replace G := Lib.hid (G.out.bw hb)
      replace B := Lib.hid (B.out.trans hb)
      clear hb zk q1 q2 cX
      dsimp only
      go_wp2_with fail
      go_roundg (mk - (j + 1))
      case measure => omega
      case rel => exact ⟨j + 1, _, rfl, by omega, by first | rfl | (push_cast; rfl), rfl, n7.out, hT7, X, G, B⟩
    ·obtain rfl : j = mk := by omega
     have dj : decide ((j : Int) < (j : Int)) = false := by simp
     have a1 : ¬ 9223372036854775807 < T.size + 1 := by omega
     have n7 : Hid ((T ++ ⟨#[10]⟩ : ByteArray).size ≤ 14 + 100 * (k + 1)) := Lib.hid (by
      simp only [ba_sz]
      show T.size + 1 ≤ _
      omega)
     have hT7 : Hid ((T ++ ⟨#[10]⟩ : ByteArray).data.toList = seatT (sn : Nat) ++ (W.take (k + 1)).flatMap wishT) := Lib.hid (by
      rw [hadd.out, ba_app, hT.out, ← hmk, srcP_all]
      unfold wishT
      dsimp only
      simp only [List.append_assoc])
     clear hT
     go_wp2_with fail
     go_roundg (nW - (k + 1))
     case measure => omega
     case rel => exact ⟨k + 1, _, rfl, by omega, by first | rfl | (push_cast; rfl), rfl, n7.out, hT7, X, G, B⟩
  ·obtain rfl : k = nW := by omega
   have dk : decide ((k : Int) < (k : Int)) = false := by simp
   have hall : W.take k = W := by rw [← hnW.out, List.take_length]
   rw [hall] at hS
   clear hall
   have hS0 : Hid (S.data.toList = seatT (sn : Nat) ++ W.flatMap wishT ++ (H.take 0).flatMap hearT) := Lib.hid (by rw [hS.out, List.take_zero, List.flatMap_nil, List.append_nil])
   clear hS
   go_upto_region 15 with (fail)
   clear q1 dk
   go_loopg [4, 7] nH (fun m' v4 v64 wx => ∃ (j : Nat) (S : ByteArray), m' = nH - j ∧ j ≤ nH ∧ v64 = .int .i64 (j : Nat) ∧ v4 = .string S ∧ S.size ≤ 250 + 50 * j ∧ Hid (S.data.toList = seatT (sn : Nat) ++ W.flatMap wishT ++ (H.take j).flatMap hearT) ∧ Hid (HpB wx g (.cells #[.int .i64 (sn : Nat), .slice sW k cW, .slice sH nH cH] 25)) ∧ Hid (BW w wx))
   case atStart => exact ⟨0, S, by omega, by omega, rfl, rfl, by omega, hS0, X, B⟩
   case round =>
    clear X G B hS0 hSn
    obtain ⟨j, S, rfl, hj, rfl, rfl, hSn, hS, X, B⟩ := hrel
    have q2 := (hp_cell X.out 2).trans (show _ = some (.slice sH nH cH) from rfl)
    by_cases hjn : j < nH
    ·have dj : decide ((j : Int) < (nH : Int)) = true := by simp; omega
     have hjL : j < H.length := by rw [hnHe.out]; exact hjn
     obtain ⟨o1, o2, o3, -, -⟩ := hMay.out.2.2.1 j hjL
     have hadd : Hid ((H.take (j + 1)).flatMap hearT = (H.take j).flatMap hearT ++ hearT (he H j)) := Lib.hid (fm_take hearT (he H) H (fun i h => he_get h) hjL)
     obtain ⟨gh, oh, rfl, hc⟩ := he_form hH.out (by omega)
     obtain ⟨y0, y1, y2⟩ := hc j hjL
     replace y0 := Lib.hid y0
     replace y1 := Lib.hid y1
     clear hc
     generalize he H j = hj' at *
     obtain ⟨o, t, l⟩ := hj'
     dsimp only at *
     obtain ⟨on, rfl⟩ : ∃ n : Nat, o = n := ⟨o.toNat, by unfold Sm at o1; omega⟩
     obtain ⟨tn, rfl⟩ : ∃ n : Nat, t = n := ⟨t.toNat, by unfold Sm at o2; omega⟩
     have hob : on ≤ 1048576 := by unfold Sm at o1; omega
     have htb : tn ≤ 1048576 := by unfold Sm at o2; omega
     clear o1 o2
     replace hjL := Lib.hid hjL
     have z2 := B.out.cell y2
     by_cases h7 : l = -1
     ·have d7 : decide (0 ≤ l) = false := decide_eq_false (by omega)
      obtain ⟨bl, hble⟩ : ∃ x : ByteArray, x = ⟨#[45]⟩ := ⟨_, rfl⟩
      have hbl : Hid (bl.data.toList = layT l) := Lib.hid (by rw [hble, h7]; rfl)
      have hbn : bl.size ≤ 7 := by rw [hble]; decide
      replace h7 := Lib.hid h7
      go_upto_region 20 with (fail)
      rw [← hble]
      clear z2 q2 d7 hble
      rename World => w5
      have hl1 : (Lib.decDigits on).length ≤ 7 := dD_le hob
      have hl2 : (Lib.decDigits tn).length ≤ 7 := dD_le htb
      have cO := d_any on hob
      have cT := d_any tn htb
      obtain ⟨bo, hbo⟩ : ∃ x, bS (Lib.decDigits on) = x := ⟨_, rfl⟩
      obtain ⟨bt, hbt⟩ : ∃ x, bS (Lib.decDigits tn) = x := ⟨_, rfl⟩
      have no : bo.size ≤ 7 := by rw [← hbo, bS_size]; exact hl1
      have nt : bt.size ≤ 7 := by rw [← hbt, bS_size]; exact hl2
      have a1 : ¬ 9223372036854775807 < S.size + 5 := by omega
      have a2 : ¬ 9223372036854775807 < S.size + 5 + bo.size := by omega
      have a3 : ¬ 9223372036854775807 < S.size + 5 + bo.size + 1 := by omega
      have a4 : ¬ 9223372036854775807 < S.size + 5 + bo.size + 1 + bt.size := by omega
      have a5 : ¬ 9223372036854775807 < S.size + 5 + bo.size + 1 + bt.size + 1 := by omega
      have a6 : ¬ 9223372036854775807 < S.size + 5 + bo.size + 1 + bt.size + 1 + bl.size := by omega
      have a7 : ¬ 9223372036854775807 < S.size + 5 + bo.size + 1 + bt.size + 1 + bl.size + 1 := by omega
      have n7 : Hid ((S ++ ⟨#[104, 101, 97, 114, 32]⟩ ++ bo ++ ⟨#[32]⟩ ++ bt ++ ⟨#[32]⟩ ++ bl ++ ⟨#[10]⟩ : ByteArray).size ≤ 250 + 50 * (j + 1)) := Lib.hid (by
       simp only [ba_sz]
       show S.size + 5 + bo.size + 1 + bt.size + 1 + bl.size + 1 ≤ _
       omega)
      have hz7 : Hid ((S ++ ⟨#[104, 101, 97, 114, 32]⟩ ++ bo ++ ⟨#[32]⟩ ++ bt ++ ⟨#[32]⟩ ++ bl ++ ⟨#[10]⟩ : ByteArray).data.toList = seatT (sn : Nat) ++ W.flatMap wishT ++ (H.take (j + 1)).flatMap hearT) := Lib.hid (by
       rw [hadd.out]
       simp only [ba_app, ← hbt, ← hbo, hbl.out, bS_list, hS.out]
       unfold hearT
       dsimp only
       simp only [List.append_assoc]
       rfl)
      rw [hbo] at cO
      rw [hbt] at cT
      replace cO := Lib.hid cO
      replace cT := Lib.hid cT
      clear hl1 hl2 hadd hbl hbn no nt hbo hbt
      go_upto_region 20 with (fail)
      have q2 := (hp_cell X.out 2).trans (show _ = some (.slice (some ⟨gh, oh, none⟩) nH cH) from rfl)
      have m2 : ∀ y : LaterS [] w5, _ := fun y => y.bw.cell q2
      have n0 : ∀ y : LaterS [] w5, _ := fun y => y.bw.cell (B.out.cell y0.out)
      have n1 : ∀ y : LaterS [] w5, _ := fun y => y.bw.cell (B.out.cell y1.out)
      clear q2
      refine wp_region_gg [] [] [] (by kernel_rfl) ?_
      refine hoist [] [] (a1 := ?_) 0 rfl (by kernel_rfl) (.inl ⟨rfl, rfl⟩) rfl rfl rfl (fun x K hK => ?_) ?_
      rotate_left
      ·go_big_quiet_op
       exact hK
      refine hoist [] [] (a1 := ?_) 1 rfl (by kernel_rfl) (.inl ⟨rfl, rfl⟩) rfl rfl rfl (fun x K hK => ?_) ?_
      rotate_left
      ·go_big_quiet_op
       exact hK
      refine hoist [] [] (a1 := ?_) 2 rfl (by kernel_rfl) (.inl ⟨rfl, rfl⟩) rfl rfl rfl (fun x K hK => ?_) ?_
      rotate_left
      ·go_big_quiet_op
       exact hK
      refine hoist [] [] (a1 := ?_) 3 rfl (by kernel_rfl) (.inl ⟨rfl, rfl⟩) rfl rfl rfl (fun x K hK => ?_) ?_
      rotate_left
      ·go_big_quiet_op
       exact hK
      refine hoist [] [] (a1 := ?_) 4 rfl (by kernel_rfl) (.inl ⟨rfl, rfl⟩) rfl rfl rfl (fun x K hK => ?_) ?_
      rotate_left
      ·go_big_quiet_op
       exact hK
      refine hoist [] [] (a1 := ?_) 5 rfl (by kernel_rfl) (.inl ⟨rfl, rfl⟩) rfl rfl rfl (fun x K hK => ?_) ?_
      rotate_left
      ·go_big_quiet_op
       exact hK
      refine hoist [] [] (a1 := ?_) 6 rfl (by kernel_rfl) (.inl ⟨rfl, rfl⟩) rfl rfl rfl (fun x K hK => ?_) ?_
      rotate_left
      ·go_big_quiet_op
       exact hK
      refine hoist [] [] (a1 := ?_) 7 rfl (by kernel_rfl) (.inl ⟨rfl, rfl⟩) rfl rfl rfl (fun x K hK => ?_) ?_
      rotate_left
      ·go_big_quiet_op
       exact hK
      refine hoist_call [] [] (a1 := ?_) 8 rfl (by kernel_rfl) (.inl ⟨rfl, rfl⟩) rfl rfl rfl (fun x K hK => ?_) ?_
      rotate_left
      ·go_big_quiet_op
       apply Exists.intro
       refine ⟨fun y => ?_, ?_⟩
       ·exact Calls.laterS_of (cO.out y.now)
       ·exact hK
      refine hoist [] [] (a1 := ?_) 9 rfl (by kernel_rfl) (.inl ⟨rfl, rfl⟩) rfl rfl rfl (fun x K hK => ?_) ?_
      rotate_left
      ·go_big_quiet_op
       exact hK
      refine hoist [] [] (a1 := ?_) 10 rfl (by kernel_rfl) (.inl ⟨rfl, rfl⟩) rfl rfl rfl (fun x K hK => ?_) ?_
      rotate_left
      ·go_big_quiet_op
       exact hK
      refine hoist [] [] (a1 := ?_) 11 rfl (by kernel_rfl) (.inl ⟨rfl, rfl⟩) rfl rfl rfl (fun x K hK => ?_) ?_
      rotate_left
      ·go_big_quiet_op
       exact hK
      refine hoist [] [] (a1 := ?_) 12 rfl (by kernel_rfl) (.inl ⟨rfl, rfl⟩) rfl rfl rfl (fun x K hK => ?_) ?_
      rotate_left
      ·go_big_quiet_op
       exact hK
      refine hoist [] [] (a1 := ?_) 13 rfl (by kernel_rfl) (.inl ⟨rfl, rfl⟩) rfl rfl rfl (fun x K hK => ?_) ?_
      rotate_left
      ·go_big_quiet_op
       exact hK
      refine hoist [] [] (a1 := ?_) 14 rfl (by kernel_rfl) (.inl ⟨rfl, rfl⟩) rfl rfl rfl (fun x K hK => ?_) ?_
      rotate_left
      ·go_big_quiet_op
       exact hK
      refine hoist [] [] (a1 := ?_) 15 rfl (by kernel_rfl) (.inl ⟨rfl, rfl⟩) rfl rfl rfl (fun x K hK => ?_) ?_
      rotate_left
      ·go_big_quiet_op
       exact hK
      refine hoist [] [] (a1 := ?_) 16 rfl (by kernel_rfl) (.inl ⟨rfl, rfl⟩) rfl rfl rfl (fun x K hK => ?_) ?_
      rotate_left
      ·go_big_quiet_op
       exact hK
      refine hoist_call [] [] (a1 := ?_) 17 rfl (by kernel_rfl) (.inl ⟨rfl, rfl⟩) rfl rfl rfl (fun x K hK => ?_) ?_
      rotate_left
      ·go_big_quiet_op
       apply Exists.intro
       refine ⟨fun y => ?_, ?_⟩
       ·exact Calls.laterS_of (cT.out y.now)
       ·exact hK
      refine hoist [] [] (a1 := ?_) 18 rfl (by kernel_rfl) (.inl ⟨rfl, rfl⟩) rfl rfl rfl (fun x K hK => ?_) ?_
      rotate_left
      ·go_big_quiet_op
       exact hK
      refine hoist [] [] (a1 := ?_) 19 rfl (by kernel_rfl) (.inl ⟨rfl, rfl⟩) rfl rfl rfl (fun x K hK => ?_) ?_
      rotate_left
      ·go_big_quiet_op
       exact hK
      refine hoist [] [] (a1 := ?_) 20 rfl (by kernel_rfl) (.inl ⟨rfl, rfl⟩) rfl rfl rfl (fun x K hK => ?_) ?_
      rotate_left
      ·go_big_quiet_op
       exact hK
      refine hoist [] [] (a1 := ?_) 21 rfl (by kernel_rfl) (.inl ⟨rfl, rfl⟩) rfl rfl rfl (fun x K hK => ?_) ?_
      rotate_left
      ·go_big_quiet_op
       exact hK
      refine hoist [] [] (a1 := ?_) 22 rfl (by kernel_rfl) (.inl ⟨rfl, rfl⟩) rfl rfl rfl (fun x K hK => ?_) ?_
      rotate_left
      ·go_big_quiet_op
       exact hK
      refine hoist [] [] (a1 := ?_) 23 rfl (by kernel_rfl) (.inl ⟨rfl, rfl⟩) rfl rfl rfl (fun x K hK => ?_) ?_
      rotate_left
      ·go_big_quiet_op
       exact hK
      refine done (by kernel_rfl) (fun xr => ?_)
      have X8 := Lib.hid (X.out.bw xr.bw)
      have B8 := Lib.hid (B.out.trans xr.bw)
      clear B X m2 n0 n1 cO cT a1 a2 a3 a4 a5 a6 a7
      generalize xr.now = w11 at *
      clear xr
      go_wp2_with fail
      go_roundg (nH - (j + 1))
      case measure => omega
      case rel => exact ⟨j + 1, _, rfl, by omega, by first | rfl | (push_cast; rfl), rfl, n7.out, hz7, X8, B8⟩
     ·obtain ⟨ln, rfl⟩ : ∃ n : Nat, l = n := ⟨l.toNat, by omega⟩
      have d7 : decide (0 ≤ (ln : Int)) = true := decide_eq_true (by omega)
      have hlb : ln ≤ 1048576 := by omega
      have hbl : Hid ((bS (Lib.decDigits ln)).data.toList = layT (ln : Nat)) := Lib.hid (by rw [bS_list]; unfold layT; rw [if_neg h7]; rfl)
      have hbn : (bS (Lib.decDigits ln)).size ≤ 7 := by rw [bS_size]; exact dD_le hlb
      replace h7 := Lib.hid h7
      go_wp2_with fail
      refine Calls.mono (d_any ln hlb _) ?_
      rintro e w5 ⟨rfl, hb⟩
      replace B := Lib.hid (B.out.trans hb)
      replace X := Lib.hid (X.out.bw hb)
      clear hb z2 q2 d7
      generalize bS (Lib.decDigits ln) = bl at *
      dsimp only
      have hl1 : (Lib.decDigits on).length ≤ 7 := dD_le hob
      have hl2 : (Lib.decDigits tn).length ≤ 7 := dD_le htb
      have cO := d_any on hob
      have cT := d_any tn htb
      obtain ⟨bo, hbo⟩ : ∃ x, bS (Lib.decDigits on) = x := ⟨_, rfl⟩
      obtain ⟨bt, hbt⟩ : ∃ x, bS (Lib.decDigits tn) = x := ⟨_, rfl⟩
      have no : bo.size ≤ 7 := by rw [← hbo, bS_size]; exact hl1
      have nt : bt.size ≤ 7 := by rw [← hbt, bS_size]; exact hl2
      have a1 : ¬ 9223372036854775807 < S.size + 5 := by omega
      have a2 : ¬ 9223372036854775807 < S.size + 5 + bo.size := by omega
      have a3 : ¬ 9223372036854775807 < S.size + 5 + bo.size + 1 := by omega
      have a4 : ¬ 9223372036854775807 < S.size + 5 + bo.size + 1 + bt.size := by omega
      have a5 : ¬ 9223372036854775807 < S.size + 5 + bo.size + 1 + bt.size + 1 := by omega
      have a6 : ¬ 9223372036854775807 < S.size + 5 + bo.size + 1 + bt.size + 1 + bl.size := by omega
      have a7 : ¬ 9223372036854775807 < S.size + 5 + bo.size + 1 + bt.size + 1 + bl.size + 1 := by omega
      have n7 : Hid ((S ++ ⟨#[104, 101, 97, 114, 32]⟩ ++ bo ++ ⟨#[32]⟩ ++ bt ++ ⟨#[32]⟩ ++ bl ++ ⟨#[10]⟩ : ByteArray).size ≤ 250 + 50 * (j + 1)) := Lib.hid (by
       simp only [ba_sz]
       show S.size + 5 + bo.size + 1 + bt.size + 1 + bl.size + 1 ≤ _
       omega)
      have hz7 : Hid ((S ++ ⟨#[104, 101, 97, 114, 32]⟩ ++ bo ++ ⟨#[32]⟩ ++ bt ++ ⟨#[32]⟩ ++ bl ++ ⟨#[10]⟩ : ByteArray).data.toList = seatT (sn : Nat) ++ W.flatMap wishT ++ (H.take (j + 1)).flatMap hearT) := Lib.hid (by
       rw [hadd.out]
       simp only [ba_app, ← hbt, ← hbo, hbl.out, bS_list, hS.out]
       unfold hearT
       dsimp only
       simp only [List.append_assoc]
       rfl)
      rw [hbo] at cO
      rw [hbt] at cT
      replace cO := Lib.hid cO
      replace cT := Lib.hid cT
      clear hl1 hl2 hadd hbl hbn no nt hbo hbt
      go_upto_region 20 with (fail)
      have q2 := (hp_cell X.out 2).trans (show _ = some (.slice (some ⟨gh, oh, none⟩) nH cH) from rfl)
      have m2 : ∀ y : LaterS [] w5, _ := fun y => y.bw.cell q2
      have n0 : ∀ y : LaterS [] w5, _ := fun y => y.bw.cell (B.out.cell y0.out)
      have n1 : ∀ y : LaterS [] w5, _ := fun y => y.bw.cell (B.out.cell y1.out)
      clear q2
      refine wp_region_gg [] [] [] (by kernel_rfl) ?_
      refine hoist [] [] (a1 := ?_) 0 rfl (by kernel_rfl) (.inl ⟨rfl, rfl⟩) rfl rfl rfl (fun x K hK => ?_) ?_
      rotate_left
      ·go_big_quiet_op
       exact hK
      refine hoist [] [] (a1 := ?_) 1 rfl (by kernel_rfl) (.inl ⟨rfl, rfl⟩) rfl rfl rfl (fun x K hK => ?_) ?_
      rotate_left
      ·go_big_quiet_op
       exact hK
      refine hoist [] [] (a1 := ?_) 2 rfl (by kernel_rfl) (.inl ⟨rfl, rfl⟩) rfl rfl rfl (fun x K hK => ?_) ?_
      rotate_left
      ·go_big_quiet_op
       exact hK
      refine hoist [] [] (a1 := ?_) 3 rfl (by kernel_rfl) (.inl ⟨rfl, rfl⟩) rfl rfl rfl (fun x K hK => ?_) ?_
      rotate_left
      ·go_big_quiet_op
       exact hK
      refine hoist [] [] (a1 := ?_) 4 rfl (by kernel_rfl) (.inl ⟨rfl, rfl⟩) rfl rfl rfl (fun x K hK => ?_) ?_
      rotate_left
      ·go_big_quiet_op
       exact hK
      refine hoist [] [] (a1 := ?_) 5 rfl (by kernel_rfl) (.inl ⟨rfl, rfl⟩) rfl rfl rfl (fun x K hK => ?_) ?_
      rotate_left
      ·go_big_quiet_op
       exact hK
      refine hoist [] [] (a1 := ?_) 6 rfl (by kernel_rfl) (.inl ⟨rfl, rfl⟩) rfl rfl rfl (fun x K hK => ?_) ?_
      rotate_left
      ·go_big_quiet_op
       exact hK
      refine hoist [] [] (a1 := ?_) 7 rfl (by kernel_rfl) (.inl ⟨rfl, rfl⟩) rfl rfl rfl (fun x K hK => ?_) ?_
      rotate_left
      ·go_big_quiet_op
       exact hK
      refine hoist_call [] [] (a1 := ?_) 8 rfl (by kernel_rfl) (.inl ⟨rfl, rfl⟩) rfl rfl rfl (fun x K hK => ?_) ?_
      rotate_left
      ·go_big_quiet_op
       apply Exists.intro
       refine ⟨fun y => ?_, ?_⟩
       ·exact Calls.laterS_of (cO.out y.now)
       ·exact hK
      refine hoist [] [] (a1 := ?_) 9 rfl (by kernel_rfl) (.inl ⟨rfl, rfl⟩) rfl rfl rfl (fun x K hK => ?_) ?_
      rotate_left
      ·go_big_quiet_op
       exact hK
      refine hoist [] [] (a1 := ?_) 10 rfl (by kernel_rfl) (.inl ⟨rfl, rfl⟩) rfl rfl rfl (fun x K hK => ?_) ?_
      rotate_left
      ·go_big_quiet_op
       exact hK
      refine hoist [] [] (a1 := ?_) 11 rfl (by kernel_rfl) (.inl ⟨rfl, rfl⟩) rfl rfl rfl (fun x K hK => ?_) ?_
      rotate_left
      ·go_big_quiet_op
       exact hK
      refine hoist [] [] (a1 := ?_) 12 rfl (by kernel_rfl) (.inl ⟨rfl, rfl⟩) rfl rfl rfl (fun x K hK => ?_) ?_
      rotate_left
      ·go_big_quiet_op
       exact hK
      refine hoist [] [] (a1 := ?_) 13 rfl (by kernel_rfl) (.inl ⟨rfl, rfl⟩) rfl rfl rfl (fun x K hK => ?_) ?_
      rotate_left
      ·go_big_quiet_op
       exact hK
      refine hoist [] [] (a1 := ?_) 14 rfl (by kernel_rfl) (.inl ⟨rfl, rfl⟩) rfl rfl rfl (fun x K hK => ?_) ?_
      rotate_left
      ·go_big_quiet_op
       exact hK
      refine hoist [] [] (a1 := ?_) 15 rfl (by kernel_rfl) (.inl ⟨rfl, rfl⟩) rfl rfl rfl (fun x K hK => ?_) ?_
      rotate_left
      ·go_big_quiet_op
       exact hK
      refine hoist [] [] (a1 := ?_) 16 rfl (by kernel_rfl) (.inl ⟨rfl, rfl⟩) rfl rfl rfl (fun x K hK => ?_) ?_
      rotate_left
      ·go_big_quiet_op
       exact hK
      refine hoist_call [] [] (a1 := ?_) 17 rfl (by kernel_rfl) (.inl ⟨rfl, rfl⟩) rfl rfl rfl (fun x K hK => ?_) ?_
      rotate_left
      ·go_big_quiet_op
       apply Exists.intro
       refine ⟨fun y => ?_, ?_⟩
       ·exact Calls.laterS_of (cT.out y.now)
       ·exact hK
      refine hoist [] [] (a1 := ?_) 18 rfl (by kernel_rfl) (.inl ⟨rfl, rfl⟩) rfl rfl rfl (fun x K hK => ?_) ?_
      rotate_left
      ·go_big_quiet_op
       exact hK
      refine hoist [] [] (a1 := ?_) 19 rfl (by kernel_rfl) (.inl ⟨rfl, rfl⟩) rfl rfl rfl (fun x K hK => ?_) ?_
      rotate_left
      ·go_big_quiet_op
       exact hK
      refine hoist [] [] (a1 := ?_) 20 rfl (by kernel_rfl) (.inl ⟨rfl, rfl⟩) rfl rfl rfl (fun x K hK => ?_) ?_
      rotate_left
      ·go_big_quiet_op
       exact hK
      refine hoist [] [] (a1 := ?_) 21 rfl (by kernel_rfl) (.inl ⟨rfl, rfl⟩) rfl rfl rfl (fun x K hK => ?_) ?_
      rotate_left
      ·go_big_quiet_op
       exact hK
      refine hoist [] [] (a1 := ?_) 22 rfl (by kernel_rfl) (.inl ⟨rfl, rfl⟩) rfl rfl rfl (fun x K hK => ?_) ?_
      rotate_left
      ·go_big_quiet_op
       exact hK
      refine hoist [] [] (a1 := ?_) 23 rfl (by kernel_rfl) (.inl ⟨rfl, rfl⟩) rfl rfl rfl (fun x K hK => ?_) ?_
      rotate_left
      ·go_big_quiet_op
       exact hK
      refine done (by kernel_rfl) (fun xr => ?_)
      have X8 := Lib.hid (X.out.bw xr.bw)
      have B8 := Lib.hid (B.out.trans xr.bw)
      clear B X m2 n0 n1 cO cT a1 a2 a3 a4 a5 a6 a7
      generalize xr.now = w11 at *
      clear xr
      go_wp2_with fail
      go_roundg (nH - (j + 1))
      case measure => omega
      case rel => exact ⟨j + 1, _, rfl, by omega, by first | rfl | (push_cast; rfl), rfl, n7.out, hz7, X8, B8⟩
    ·obtain rfl : j = nH := by omega
     have dj : decide ((j : Int) < (j : Int)) = false := by simp
     have hall : H.take j = H := by rw [← hnHe.out, List.take_length]
     rw [hall] at hS
     go_wp2_with fail
     go_ret
     exact ⟨⟨S, hS.out, by omega, rfl⟩, B.out⟩
end Go.Proofs.YtafhnlnhflehhaaGreatDoor
