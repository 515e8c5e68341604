/- Write: an offer's text (printed by wip/gen/genOfY.py). No condition but the sizes'. -/
import Derived.Test.YtafhnlnhflehhaaGreatDoorOfX
namespace Go.Proofs.YtafhnlnhflehhaaGreatDoor
open Go.RowKit
theorem ba_app (x y : ByteArray) : (x ++ y).data.toList = x.data.toList ++ y.data.toList := by simp
theorem ba_sz (x y : ByteArray) : (x ++ y).size = x.size + y.size := by rw [ba_size, ba_size, ba_size, ba_app, List.length_append]
def dT (n : Int) : List UInt8 := Lib.decDigits n.toNat
def codT (c : Int) : List UInt8 := if c = 0 then [112, 108, 97, 105, 110] else if c = 1 then [118, 112, 56] else [97, 118, 99]
def srcT (l : List Nat) : List UInt8 := Lib.join (l.map Lib.decDigits) [44]
def wishT (x : WishD) : List UInt8 := [116, 114, 97, 99, 107, 32] ++ dT x.t ++ [32] ++ codT x.c ++ [32] ++ srcT x.s ++ [10]
def layT (l : Int) : List UInt8 := if l = -1 then [45] else dT l
def hearT (x : HearD) : List UInt8 := [104, 101, 97, 114, 32] ++ dT x.o ++ [32] ++ dT x.t ++ [32] ++ layT x.l ++ [10]
def seatT (s : Int) : List UInt8 := [111, 102, 102, 101, 114, 32] ++ dT s ++ [10]
def offT (d : OffD) : List UInt8 := seatT d.seat ++ d.W.flatMap wishT ++ d.H.flatMap hearT
theorem nD_le : ∀ k u : Nat, u < 10 ^ (k + 1) → Lib.nDigits u ≤ k + 1
 | 0, u, h => by rw [Lib.nDigits_small (by simpa using h)]; exact Nat.le_refl _
 | k + 1, u, h => by
  by_cases hu : u < 10
  ·rw [Lib.nDigits_small hu]; omega
  ·rw [Lib.nDigits_big hu]
   have := nD_le k (u / 10) (by rw [Nat.pow_succ] at h; omega)
   omega
theorem dD_le {n : Nat} (h : n ≤ 1048576) : (Lib.decDigits n).length ≤ 7 := by
 rw [Lib.decDigits_length]; exact nD_le 6 n (by omega)
theorem joinT_le : ∀ l : List Nat, (∀ x ∈ l, x ≤ 1048576) → (Lib.joinTail [44] (l.map Lib.decDigits)).length ≤ 8 * l.length
 | [], _ => by simp [Lib.joinTail]
 | x :: l, h => by
  have h1 := dD_le (h x (by simp))
  have h2 := joinT_le l (fun y hy => h y (by simp [hy]))
  unfold Lib.joinTail at h2 ⊢
  simp only [List.map_cons, List.flatten_cons, List.length_append, List.length_cons, List.length_nil]
  omega
theorem srcT_le (l : List Nat) (h : ∀ x ∈ l, x ≤ 1048576) : (srcT l).length ≤ 8 * l.length := by
 unfold srcT
 cases l with
 | nil => simp [Lib.join_nil]
 | cons x r =>
  rw [List.map_cons, Lib.join_cons, List.length_append]
  have h1 := dD_le (h x (by simp))
  have h2 := joinT_le r (fun y hy => h y (by simp [hy]))
  rw [List.length_cons]
  omega
structure NumB (d : OffD) (b : Nat) : Prop where
 bd : b ≤ 1048576
 seat : d.seat.toNat < b
 wt : ∀ i, i < d.W.length → (wi d.W i).t.toNat < b
 ws : ∀ i, i < d.W.length → ∀ x ∈ (wi d.W i).s, x < b
 ho : ∀ i, i < d.H.length → (he d.H i).o.toNat < b
 ht : ∀ i, i < d.H.length → (he d.H i).t.toNat < b
 hl : ∀ i, i < d.H.length → (he d.H i).l.toNat < b
theorem fm_take {α : Type} (f : α → List UInt8) (g : Nat → α) (L : List α) (hg : ∀ i (h : i < L.length), g i = L[i]) {k : Nat} (h : k < L.length) : (L.take (k + 1)).flatMap f = (L.take k).flatMap f ++ f (g k) := by
 rw [List.take_add_one, List.getElem?_eq_getElem h, hg k h, List.flatMap_append]
 show _ ++ ([L[k]].flatMap f) = _
 rw [List.flatMap_singleton]
def WrRes (d : OffD) (e : Ending) : Prop := (MayO d ∧ ∃ S : ByteArray, S.data.toList = offT d ∧ S.size ≤ 1000 ∧ e = .returned (.tuple #[.string S, .int .i64 0])) ∨ (¬ MayO d ∧ e = .returned (.tuple #[.string ⟨#[]⟩, .int .i64 1]))
set_option maxRecDepth 100000 in
set_option maxHeartbeats 8000000 in
theorem write_any (cs : Array Value) (d : OffD) (sW : Option Addr) (cW : Nat) (sH : Option Addr) (cH : Nat) (b : Nat) (w : World) (h : OffV w cs d sW cW sH cH) (hW : d.W.length ≤ 40) (hs : ∀ i, i < d.W.length → (wi d.W i).s.length ≤ 40) (hnH : d.H.length ≤ 40) (hN : NumC w b) (hB : MayO d → NumB d b) :
  Calls Tryz.prog 7 #[.agg cs] w fun e w' => WrRes d e ∧ BW w w' := by
 have h0 := h
 obtain ⟨rfl, hw, hh⟩ := h
 obtain ⟨seat, W, H⟩ := d
 dsimp only at hw hh hW hs hnH ⊢
 obtain ⟨_, _, he, hWc, hWm⟩ := hw.len
 cases he
 obtain ⟨_, _, he, hHc, hHm⟩ := hh.len
 cases he
 unfold maxLen at hWm hHm
 have cM0 := fun wx (hb : BW w wx) => may_any _ _ _ _ _ _ wx (h0.bw hb) hW hs hnH
 clear h0 hs
 obtain ⟨nW, hnW⟩ : ∃ n, W.length = n := ⟨_, rfl⟩
 obtain ⟨nH, hnHe⟩ : ∃ n, H.length = n := ⟨_, rfl⟩
 have cM : Hid (∀ wx, BW w wx → Calls Tryz.prog 13 #[.agg #[.int .i64 seat, .slice sW nW cW, .slice sH nH cH]] wx fun e w' => MayOR ⟨seat, W, H⟩ e ∧ BW wx w') := Lib.hid (by rw [← hnW, ← hnHe]; exact cM0)
 unfold offC
 dsimp only
 rw [hnW] at hw hWc hW ⊢
 rw [hnHe] at hh hHc hnH ⊢
 have B := (BW.refl w).alloc (o := .cells #[.int .i64 seat, .slice sW nW cW, .slice sH nH cH] 25)
 have X := HpB.new w (.cells #[.int .i64 seat, .slice sW nW cW, .slice sH nH cH] 25)
 have hH := Lib.hid hh
 have hWQ := Lib.hid hw
 obtain ⟨base, hbase⟩ : ∃ b, w.heap.size = b := ⟨_, rfl⟩
 have hb0 := Lib.hid hbase
 have cN := Lib.hid hN
 clear hbase hh hw cM0 hN
 replace hnW := Lib.hid hnW
 replace hnHe := Lib.hid hnHe
 replace B := Lib.hid B
 replace X := Lib.hid X
 replace hB := Lib.hid hB
 go_enter Tryz.func7, Tryz.ntmps7
 go_upto_region 1 with (fail)
 generalize w.alloc _ = w1 at *
 generalize hgw : w.heap.size = g at *
 have hb1 : Hid (w.heap.size = base) := Lib.hid (hgw.trans hb0.out)
 clear hb0 hgw
 go_wp2_with (refine swLd swOf rfl rfl rfl X.out rfl ?_)
 refine Calls.mono (cM.out _ B.out) ?_
 rintro e w2 ⟨⟨mb, rfl, hb⟩, hbw⟩
 replace X := Lib.hid (X.out.bw hbw)
 replace B := Lib.hid (B.out.trans hbw)
 replace hb := Lib.hid hb
 clear hbw cM
 dsimp only
 cases mb with
 | false =>
  go_wp2_with fail
  go_ret2
  exact ⟨.inr ⟨fun h => (by have := hb.out.2 h; cases this), rfl⟩, B.out⟩
 | true =>
  have hMay := Lib.hid (hb.out.1 rfl)
  replace hB := Lib.hid (hB.out hMay.out)
  clear hb
  have q0 := (hp_cell X.out 0).trans (show _ = some (.int .i64 seat) from rfl)
  have hsm : Sm seat := hMay.out.1
  obtain ⟨sn, rfl⟩ : ∃ n : Nat, seat = n := ⟨seat.toNat, by unfold Sm at hsm; omega⟩
  have hsb : sn < b := by have := hB.out.seat; simpa using this
  have hb20 : b ≤ 1048576 := hB.out.bd
  have hl1 : (Lib.decDigits sn).length ≤ 7 := dD_le (by omega)
  obtain ⟨sd, hsd⟩ : ∃ x, bS (Lib.decDigits sn) = x := ⟨_, rfl⟩
  have n1 : sd.size ≤ 7 := by rw [← hsd, bS_size]; exact hl1
  have a1 : ¬ 9223372036854775807 < 6 + sd.size := by omega
  have a2 : ¬ 9223372036854775807 < 6 + sd.size + 1 := by omega
  have n2 : (⟨#[111, 102, 102, 101, 114, 32]⟩ ++ sd ++ ⟨#[10]⟩ : ByteArray).size ≤ 14 := by rw [ba_sz, ba_sz]; show 6 + _ + 1 ≤ _; omega
  have hz2 : Hid ((⟨#[111, 102, 102, 101, 114, 32]⟩ ++ sd ++ ⟨#[10]⟩ : ByteArray).data.toList = seatT (sn : Nat)) := Lib.hid (by rw [ba_app, ba_app, ← hsd, bS_list]; rfl)
  have cS := Lib.hid (cN.out.itoa _ B.out sn hsb)
  rw [hsd] at cS
  replace hsd := Lib.hid hsd
  clear hl1
  go_wp2_with fail
  refine Calls.mono cS.out ?_
  rintro e w3 ⟨rfl, hbw⟩
  replace X := Lib.hid (X.out.bw hbw)
  replace B := Lib.hid (B.out.trans hbw)
  clear hbw q0 cS
  dsimp only
  have q1 := (hp_cell X.out 1).trans (show _ = some (.slice sW nW cW) from rfl)
  go_upto_region 5 with (fail)
  clear q1 a1 a2
  go_loopg [4, 24] nW (fun m' v4 v24 wx => ∃ (k : Nat) (S : ByteArray), m' = nW - k ∧ k ≤ nW ∧ v24 = .int .i64 (k : Nat) ∧ v4 = .string S ∧ S.size ≤ 14 + 100 * k ∧ Hid (S.data.toList = seatT (sn : Nat) ++ (W.take k).flatMap wishT) ∧ Hid (HpB wx g (.cells #[.int .i64 (sn : Nat), .slice sW nW cW, .slice sH nH cH] 25)) ∧ Hid (BW w wx))
  case atStart => exact ⟨0, _, by omega, by omega, rfl, rfl, n2, Lib.hid (by rw [hz2.out, List.take_zero, List.flatMap_nil, List.append_nil]), X, B⟩
  case round =>
   clear X B hz2 n2 n1 hsd
   obtain ⟨k, S, rfl, hk, rfl, rfl, hSn, hS, X, B⟩ := hrel
   by_cases hkn : k < nW
   ·have dk : decide ((k : Int) < (nW : Int)) = true := by simp; omega
    have hkL : k < W.length := by rw [hnW.out]; exact hkn
    have hwt := hB.out.wt k hkL
    have hws := hB.out.ws k hkL
    have hOkW := hMay.out.2.1.1 k hkL
    have hnW2 : nW ≤ 2 := by rw [← hnW.out]; exact hMay.out.2.1.2.1
    have hadd : Hid ((W.take (k + 1)).flatMap wishT = (W.take k).flatMap wishT ++ wishT (wi W k)) := Lib.hid (fm_take wishT (wi W) W (fun i h => wi_get h) hkL)
    obtain ⟨gw, ow, rfl, -, hc⟩ := wi_form hWQ.out (by omega)
    obtain ⟨sk, mk, ck, y0, y1, y2, hkq⟩ := hc k hkL
    rw [← wi_get hkL] at y0 y1 hkq
    have hmk : (wi W k).s.length = mk := hkq.1
    unfold OkW at hOkW
    obtain ⟨o1, o2, -, o4⟩ := hOkW
    rw [hmk] at o4
    replace hkq := Lib.hid hkq
    replace y0 := B.out.cell y0
    replace y1 := B.out.cell y1
    replace y2 := B.out.cell y2
    clear hc
    generalize wi W k = wk at *
    obtain ⟨t, c, ss⟩ := wk
    dsimp only at *
    obtain ⟨tn, rfl⟩ : ∃ n : Nat, t = n := ⟨t.toNat, by unfold Sm at o1; omega⟩
    obtain ⟨cn, rfl⟩ : ∃ n : Nat, c = n := ⟨c.toNat, by omega⟩
    have htb : tn < b := by simpa using hwt
    have hcn : cn < 3 := by omega
    clear o1 o2 hwt
    replace hws := Lib.hid hws
    replace hkL := Lib.hid hkL
    obtain ⟨_, _, he, hkc, hkm⟩ := hkq.out.len
    cases he
    unfold maxLen at hkm
    go_upto_region 6 with (fail)
    rename World => wo
    go_upto_region 7 with (refine wpList_store_new rfl 41 _ _ rfl _ #[.int .i64 (tn : Nat), .int .i64 (cn : Nat), .slice sk mk ck] _ rfl rfl (by kernel_rfl) rfl rfl ?_)
    have hb := (BW.refl wo).alloc (o := .cells #[.int .i64 (tn : Nat), .int .i64 (cn : Nat), .slice sk mk ck] 41)
    have Y := Lib.hid (HpB.new wo (.cells #[.int .i64 (tn : Nat), .int .i64 (cn : Nat), .slice sk mk ck] 41))
    replace X := Lib.hid (X.out.bw hb)
    replace B := Lib.hid (B.out.trans hb)
    clear hb y0 y1 y2
    generalize wo.alloc (.cells #[.int .i64 (tn : Nat), .int .i64 (cn : Nat), .slice sk mk ck] 41) = w4 at *
    generalize wo.heap.size = gx at *
    clear wo
    have q2 := (hp_cell Y.out 2).trans (show _ = some (.slice sk mk ck) from rfl)
    have Q : Hid (EQ EStr 9 w4 base (.slice none 0 0) 0 ((ss.take 0).map fun n => bS (Lib.decDigits n))) := Lib.hid (EQ.nil _ _ _ _)
    go_upto_region 9 with (fail)
    clear q2
    rename World => wo
    go_loopg [7, 31] mk (fun m' v7 v31 wx => ∃ (j cp : Nat) (s : Option Addr), m' = mk - j ∧ j ≤ mk ∧ v31 = .int .i64 (j : Nat) ∧ v7 = .slice s j cp ∧ Hid (EQ EStr 9 wx base (.slice s j cp) j ((ss.take j).map fun n => bS (Lib.decDigits n))) ∧ Hid (HpB wx g (.cells #[.int .i64 (sn : Nat), .slice (some ⟨gw, ow, none⟩) nW cW, .slice sH nH cH] 25)) ∧ Hid (HpB wx gx (.cells #[.int .i64 (tn : Nat), .int .i64 (cn : Nat), .slice sk mk ck] 41)) ∧ Hid (BW w wx))
    case atStart => exact ⟨0, 0, none, by omega, by omega, rfl, rfl, Q, X, Y, B⟩
    case round =>
     clear Q X Y B
     obtain ⟨j, cp, s, rfl, hj, rfl, rfl, Q, X, Y, B⟩ := hrel
     by_cases hjm : j < mk
     ·have dj : decide ((j : Int) < (mk : Int)) = true := by simp; omega
      have hjl : j < ss.length := by rw [hmk]; exact hjm
      obtain ⟨gk, ok, rfl, hc⟩ := u4_cellS hkq.out (by omega)
      obtain ⟨xj, hxj⟩ : ∃ x, ss.getD j 0 = x := ⟨_, rfl⟩
      have hxg : ss[j] = xj := by rw [← hxj, getD_lt hjl]
      have hxb : xj < b := by rw [← hxg]; exact hws.out _ (List.getElem_mem hjl)
      have hmp : Hid ((ss.take (j + 1)).map (fun n => bS (Lib.decDigits n)) = (ss.take j).map (fun n => bS (Lib.decDigits n)) ++ [bS (Lib.decDigits xj)]) := Lib.hid (by
       rw [List.take_succ_eq_append_getElem hjl, List.map_append, hxg]; rfl)
      have zk := B.out.cell (hc j hjm)
      rw [hxj] at zk
      clear hc hxg
      obtain ⟨_, _, he, hncp, hcpm⟩ := Q.out.len
      cases he
      unfold maxLen at hcpm
      have hxm : xj % 18446744073709551616 = xj := Nat.mod_eq_of_lt (by omega)
      replace hxj := Lib.hid hxj
      replace hjl := Lib.hid hjl
      go_wp2_with fail
      refine Calls.mono (cN.out.fmt _ B.out xj hxb) ?_
      rintro e w5 ⟨rfl, hb⟩
      clear zk
      replace X := Lib.hid (X.out.bw hb)
      replace Y := Lib.hid (Y.out.bw hb)
      replace Q := Lib.hid (Q.out.bw hb)
      replace B := Lib.hid (B.out.trans hb)
      clear hb hxm
      generalize bS (Lib.decDigits xj) = sx at *
      dsimp only
      have BA := (BW.refl w5).alloc (o := .cells #[.string sx] 9)
      have L11 : Hid (Sls (w5.alloc (.cells #[.string sx] 9)) EStr.size (.slice (some ⟨w5.heap.size, 0, none⟩) 1 1) 1 [.string sx]) := Lib.hid (Sls.new1 (E := EStr) w5 9 [.string sx] rfl)
      replace X := Lib.hid (X.out.bw BA)
      replace Y := Lib.hid (Y.out.bw BA)
      replace Q := Lib.hid (Q.out.bw BA)
      replace B := Lib.hid (B.out.trans BA)
      have hz11 := Lib.hid (Nat.le_trans (Nat.le_of_eq hb1.out.symm) B.out.size)
      clear BA
      go_upto_region 12 with (at_builtin; go_must (refine wpList_apEQ slStr rfl _ _ rfl base (.slice s j cp) j _ rfl Q.out _ rfl 1 [sx] [.string sx] L11.out (EL.single rfl) rfl (by omega) hz11.out (fun _ _ => trivial) ?_; intro s7 c7 w7 hc7 hm7 E7 T7 B7 G7; unfold maxLen at hm7; replace E7 := Lib.hid E7; replace T7 := Lib.hid T7; replace B := Lib.hid (B.out.step B7 (Nat.le_of_eq hb1.out)); clear B7 G7))
      have X7 := Lib.hid (X.out.st T7.out (fun hm => Q.out.ne X.out (by decide) _ (by simpa using hm) rfl))
      have Y7 := Lib.hid (Y.out.st T7.out (fun hm => Q.out.ne Y.out (by decide) _ (by simpa using hm) rfl))
      rw [← hmp.out] at E7
      clear T7 X Y Q L11 hz11 hmp
      try simp only [Act.put, List.setIfInBounds_toArray, List.set_cons_succ, List.set_cons_zero]
      go_wp2_with fail
      go_roundg (mk - (j + 1))
      case measure => omega
      case rel => exact ⟨j + 1, c7, s7, rfl, by omega, by first | rfl | (push_cast; rfl), rfl, E7, X7, Y7, B⟩
     ·obtain rfl : j = mk := by omega
      have dj : decide ((j : Int) < (j : Int)) = false := by simp
      have hall : ss.take j = ss := by rw [← hmk, List.take_length]
      rw [hall] at Q
      clear hall
      have hjs : Hid ((ss.map fun n => bS (Lib.decDigits n)).map (·.data.toList) = ss.map Lib.decDigits) := Lib.hid (by
       rw [List.map_map]; exact List.map_congr_left (fun n _ => bS_list _))
      have hsl : (srcT ss).length ≤ 32 := by
       have := srcT_le ss (fun x hx => by have := hws.out x hx; omega)
       omega
      have cJ : Hid (∀ y : World, BW wr y → Calls Tryz.prog 17 #[.slice s j cp, .string ⟨#[44]⟩] y fun e w' => e = .returned (.string (bS (srcT ss))) ∧ BW y w') := Lib.hid (fun y hy => by
       have := join_any base j cp s _ 9 y (Q.out.bw hy) (by omega) (by omega) (by rw [hjs.out]; show (srcT ss).length ≤ _; omega)
       rw [hjs.out] at this
       exact this)
      have cT : Hid (∀ y : World, BW wr y → Calls Tryz.prog 14 #[.int .i64 (tn : Nat)] y fun e w' => e = .returned (.string (bS (Lib.decDigits tn))) ∧ BW y w') := Lib.hid (fun y hy => cN.out.itoa y (B.out.trans hy) tn htb)
      have hl1 : (Lib.decDigits tn).length ≤ 7 := dD_le (by omega)
      have hcl : (codT (cn : Nat)).length ≤ 5 := by unfold codT; split; decide; split <;> decide
      obtain ⟨bt, hbt⟩ : ∃ x, bS (Lib.decDigits tn) = x := ⟨_, rfl⟩
      obtain ⟨bj, hbj⟩ : ∃ x, bS (srcT ss) = x := ⟨_, rfl⟩
      obtain ⟨bc, hbc⟩ : ∃ x, bS (codT (cn : Nat)) = x := ⟨_, rfl⟩
      have nt : bt.size ≤ 7 := by rw [← hbt, bS_size]; exact hl1
      have nj : bj.size ≤ 32 := by rw [← hbj, bS_size]; exact hsl
      have nc : bc.size ≤ 5 := by rw [← hbc, bS_size]; exact hcl
      have a1 : ¬ 9223372036854775807 < 6 + bt.size := by omega
      have a2 : ¬ 9223372036854775807 < 6 + bt.size + 1 := by omega
      have a3 : ¬ 9223372036854775807 < 6 + bt.size + 1 + bc.size := by omega
      have a4 : ¬ 9223372036854775807 < 6 + bt.size + 1 + bc.size + 1 := by omega
      have a5 : ¬ 9223372036854775807 < 6 + bt.size + 1 + bc.size + 1 + bj.size := by omega
      have a6 : ¬ 9223372036854775807 < 6 + bt.size + 1 + bc.size + 1 + bj.size + 1 := by omega
      have a7 : ¬ 9223372036854775807 < S.size + (6 + bt.size + 1 + bc.size + 1 + bj.size + 1) := by omega
      have n7 : Hid ((S ++ (⟨#[116, 114, 97, 99, 107, 32]⟩ ++ bt ++ ⟨#[32]⟩ ++ bc ++ ⟨#[32]⟩ ++ bj ++ ⟨#[10]⟩) : ByteArray).size ≤ 14 + 100 * (k + 1)) := Lib.hid (by
       simp only [ba_sz]
       show S.size + (6 + bt.size + 1 + bc.size + 1 + bj.size + 1) ≤ _
       omega)
      have hz7 : Hid ((S ++ (⟨#[116, 114, 97, 99, 107, 32]⟩ ++ bt ++ ⟨#[32]⟩ ++ bc ++ ⟨#[32]⟩ ++ bj ++ ⟨#[10]⟩) : ByteArray).data.toList = seatT (sn : Nat) ++ (W.take (k + 1)).flatMap wishT) := Lib.hid (by
       rw [hadd.out, ba_app, hS.out]
       simp only [ba_app, ← hbt, ← hbj, ← hbc, bS_list]
       unfold wishT
       dsimp only
       simp only [List.append_assoc]
       rfl)
      have hcodd : Hid (∀ (wx : World) (gc : Nat), wx.cell? ⟨gc, 0, none⟩ = some (.string ⟨#[112, 108, 97, 105, 110]⟩) → wx.cell? ⟨gc, 1, none⟩ = some (.string ⟨#[118, 112, 56]⟩) → wx.cell? ⟨gc, 2, none⟩ = some (.string ⟨#[97, 118, 99]⟩) → wx.cell? ⟨gc, cn, none⟩ = some (.string bc)) := Lib.hid (fun wx gc h0 h1 h2 => by
       rw [← hbc]
       have hcc : cn = 0 ∨ cn = 1 ∨ cn = 2 := by omega
       rcases hcc with rfl | rfl | rfl
       ·exact h0
       ·exact h1
       ·exact h2)
      rw [hbj] at cJ
      rw [hbt] at cT
      clear hl1 hcl hsl hjs hadd nt nj nc hbt hbj hbc Q hkq hws
      go_upto_region 13 with (fail)
      have mt : ∀ y : LaterS [] wr, _ := fun y => y.bw.cell ((hp_cell Y.out 0).trans (show _ = some (.int .i64 (tn : Nat)) from rfl))
      have mc : ∀ y : LaterS [] wr, _ := fun y => y.bw.cell ((hp_cell Y.out 1).trans (show _ = some (.int .i64 (cn : Nat)) from rfl))
      refine wp_region_gg [] [] [] (by kernel_rfl) ?_
      refine hoist [] [] (a1 := ?_) 0 rfl (by kernel_rfl) (.inl ⟨rfl, rfl⟩) rfl rfl rfl (fun x K hK => ?_) ?_
      rotate_left
      ·go_big_quiet_op
       exact hK
      refine hoist [] [] (a1 := ?_) 1 rfl (by kernel_rfl) (.inl ⟨rfl, rfl⟩) rfl rfl rfl (fun x K hK => ?_) ?_
      rotate_left
      ·go_big_quiet_op
       exact hK
      refine hoist [] [] (a1 := ?_) 2 rfl (by kernel_rfl) (.inl ⟨rfl, rfl⟩) rfl rfl rfl (fun x K hK => ?_) ?_
      rotate_left
      ·go_big_quiet_op
       exact hK
      refine hoist_call [] [] (a1 := ?_) 3 rfl (by kernel_rfl) (.inl ⟨rfl, rfl⟩) rfl rfl rfl (fun x K hK => ?_) ?_
      rotate_left
      ·go_big_quiet_op
       apply Exists.intro
       refine ⟨fun y => ?_, ?_⟩
       ·exact Calls.laterS_of (cT.out y.now (x.bw.trans y.bw))
       ·exact hK
      refine hoist [] [] (a1 := ?_) 4 rfl (by kernel_rfl) (.inl ⟨rfl, rfl⟩) rfl rfl rfl (fun x K hK => ?_) ?_
      rotate_left
      ·go_big_quiet_op
       exact hK
      refine hoist [] [] (a1 := ?_) 5 rfl (by kernel_rfl) (.inl ⟨rfl, rfl⟩) rfl rfl rfl (fun x K hK => ?_) ?_
      rotate_left
      ·go_big_quiet_op
       exact hK
      refine hoist [] [] (a1 := ?_) 7 rfl (by kernel_rfl) (.inl ⟨rfl, rfl⟩) rfl rfl rfl (fun x K hK => ?_) ?_
      rotate_left
      ·go_big_quiet_op
       exact hK
      refine hoist [] [] (a1 := ?_) 8 rfl (by kernel_rfl) (.inl ⟨rfl, rfl⟩) rfl rfl rfl (fun x K hK => ?_) ?_
      rotate_left
      ·go_big_quiet_op
       exact hK
      refine hoist [] [] (a1 := ?_) 13 rfl (by kernel_rfl) (.inl ⟨rfl, rfl⟩) rfl rfl rfl (fun x K hK => ?_) ?_
      rotate_left
      ·go_big_quiet_op
       exact hK
      refine effect 6 rfl (by kernel_rfl) (by kernel_rfl) rfl (fun x6 K hK => ?_)
      go_simp
      refine Calls.mono (codecs_any x6.now) ?_
      rintro e w6 ⟨g6, rfl, h0, h1, h2, hb6⟩
      refine hK _ _ (hb6.still _) ?_
      have hcod := hcodd.out w6 g6 h0 h1 h2
      have mcod : ∀ y : LaterS [] w6, _ := fun y => y.bw.cell hcod
      clear hK K mt mc h0 h1 h2
      have BB := Lib.hid (x6.bw.trans hb6)
      have mc : ∀ y : LaterS [] w6, _ := fun y => y.bw.cell (BB.out.cell ((hp_cell Y.out 1).trans (show _ = some (.int .i64 (cn : Nat)) from rfl)))
      clear hb6
      try simp only [Act.put, List.setIfInBounds_toArray, List.set_cons_succ, List.set_cons_zero]
      refine hoist [] [] (a1 := ?_) 9 rfl (by kernel_rfl) (.inl ⟨rfl, rfl⟩) rfl rfl rfl (fun x K hK => ?_) ?_
      rotate_left
      ·go_big_quiet_op
       exact hK
      refine hoist [] [] (a1 := ?_) 10 rfl (by kernel_rfl) (.inl ⟨rfl, rfl⟩) rfl rfl rfl (fun x K hK => ?_) ?_
      rotate_left
      ·go_big_quiet_op
       exact hK
      refine hoist [] [] (a1 := ?_) 11 rfl (by kernel_rfl) (.inl ⟨rfl, rfl⟩) rfl rfl rfl (fun x K hK => ?_) ?_
      rotate_left
      ·go_big_quiet_op
       exact hK
      refine hoist [] [] (a1 := ?_) 12 rfl (by kernel_rfl) (.inl ⟨rfl, rfl⟩) rfl rfl rfl (fun x K hK => ?_) ?_
      rotate_left
      ·go_big_quiet_op
       exact hK
      refine hoist_call [] [] (a1 := ?_) 14 rfl (by kernel_rfl) (.inl ⟨rfl, rfl⟩) rfl rfl rfl (fun x K hK => ?_) ?_
      rotate_left
      ·go_big_quiet_op
       apply Exists.intro
       refine ⟨fun y => ?_, ?_⟩
       ·exact Calls.laterS_of (cJ.out y.now (BB.out.trans (x.bw.trans y.bw)))
       ·exact hK
      refine hoist [] [] (a1 := ?_) 15 rfl (by kernel_rfl) (.inl ⟨rfl, rfl⟩) rfl rfl rfl (fun x K hK => ?_) ?_
      rotate_left
      ·go_big_quiet_op
       exact hK
      refine hoist [] [] (a1 := ?_) 16 rfl (by kernel_rfl) (.inl ⟨rfl, rfl⟩) rfl rfl rfl (fun x K hK => ?_) ?_
      rotate_left
      ·go_big_quiet_op
       exact hK
      refine hoist [] [] (a1 := ?_) 17 rfl (by kernel_rfl) (.inl ⟨rfl, rfl⟩) rfl rfl rfl (fun x K hK => ?_) ?_
      rotate_left
      ·go_big_quiet_op
       exact hK
      refine hoist [] [] (a1 := ?_) 18 rfl (by kernel_rfl) (.inl ⟨rfl, rfl⟩) rfl rfl rfl (fun x K hK => ?_) ?_
      rotate_left
      ·go_big_quiet_op
       exact hK
      refine done (by kernel_rfl) (fun xr => ?_)
      have X8 := Lib.hid (X.out.bw (BB.out.trans xr.bw))
      have B8 := Lib.hid (B.out.trans (BB.out.trans xr.bw))
      clear X B Y BB mc mcod hcod cJ cT a1 a2 a3 a4 a5 a6 a7
      generalize xr.now = w11 at *
      clear xr
      go_wp2_with fail
      go_roundg (nW - (k + 1))
      case measure => omega
      case rel => exact ⟨k + 1, _, rfl, by omega, by first | rfl | (push_cast; rfl), rfl, n7.out, hz7, X8, B8⟩
   ·obtain rfl : k = nW := by omega
    have dk : decide ((k : Int) < (k : Int)) = false := by simp
    have hall : W.take k = W := by rw [← hnW.out, List.take_length]
    rw [hall] at hS
    have hnW2 : k ≤ 2 := by rw [← hnW.out]; exact hMay.out.2.1.2.1
    clear hall
    have q2 := (hp_cell X.out 2).trans (show _ = some (.slice sH nH cH) from rfl)
    have hS0 : Hid (S.data.toList = seatT (sn : Nat) ++ W.flatMap wishT ++ (H.take 0).flatMap hearT) := Lib.hid (by rw [hS.out, List.take_zero, List.flatMap_nil, List.append_nil])
    clear hS
    go_upto_region 16 with (fail)
    clear q2 dk
    go_loopg [4, 64] nH (fun m' v4 v64 wx => ∃ (j : Nat) (S : ByteArray), m' = nH - j ∧ j ≤ nH ∧ v64 = .int .i64 (j : Nat) ∧ v4 = .string S ∧ S.size ≤ 250 + 50 * j ∧ Hid (S.data.toList = seatT (sn : Nat) ++ W.flatMap wishT ++ (H.take j).flatMap hearT) ∧ Hid (BW w wx))
    case atStart => exact ⟨0, S, by omega, by omega, rfl, rfl, by omega, hS0, B⟩
    case round =>
     clear X B hS0 hSn
     obtain ⟨j, S, rfl, hj, rfl, rfl, hSn, hS, B⟩ := hrel
     have hnH4 : nH ≤ 4 := by rw [← hnHe.out]; exact hMay.out.2.2.2
     by_cases hjn : j < nH
     ·have dj : decide ((j : Int) < (nH : Int)) = true := by simp; omega
      have hjL : j < H.length := by rw [hnHe.out]; exact hjn
      have hho := hB.out.ho j hjL
      have hht := hB.out.ht j hjL
      have hhl := hB.out.hl j hjL
      obtain ⟨o1, o2, o3, -, -⟩ := hMay.out.2.2.1 j hjL
      have hadd : Hid ((H.take (j + 1)).flatMap hearT = (H.take j).flatMap hearT ++ hearT (he H j)) := Lib.hid (fm_take hearT (he H) H (fun i h => he_get h) hjL)
      obtain ⟨gh, oh, rfl, hc⟩ := he_form hH.out (by omega)
      obtain ⟨y0, y1, y2⟩ := hc j hjL
      replace y0 := B.out.cell y0
      replace y1 := B.out.cell y1
      replace y2 := B.out.cell y2
      clear hc
      generalize he H j = hj' at *
      obtain ⟨o, t, l⟩ := hj'
      dsimp only at *
      obtain ⟨on, rfl⟩ : ∃ n : Nat, o = n := ⟨o.toNat, by unfold Sm at o1; omega⟩
      obtain ⟨tn, rfl⟩ : ∃ n : Nat, t = n := ⟨t.toNat, by unfold Sm at o2; omega⟩
      have hob : on < b := by simpa using hho
      have htb : tn < b := by simpa using hht
      clear o1 o2 hho hht
      replace hjL := Lib.hid hjL
      go_upto_region 17 with (fail)
      rename World => wo
      go_upto_region 18 with (refine wpList_store_new rfl 43 _ _ rfl _ #[.int .i64 (on : Nat), .int .i64 (tn : Nat), .int .i64 l] _ rfl rfl (by kernel_rfl) rfl rfl ?_)
      have hb := (BW.refl wo).alloc (o := .cells #[.int .i64 (on : Nat), .int .i64 (tn : Nat), .int .i64 l] 43)
      have Y := Lib.hid (HpB.new wo (.cells #[.int .i64 (on : Nat), .int .i64 (tn : Nat), .int .i64 l] 43))
      replace B := Lib.hid (B.out.trans hb)
      clear hb y0 y1 y2
      generalize wo.alloc (.cells #[.int .i64 (on : Nat), .int .i64 (tn : Nat), .int .i64 l] 43) = w4 at *
      generalize wo.heap.size = gx at *
      clear wo
      have ql := (hp_cell Y.out 2).trans (show _ = some (.int .i64 l) from rfl)
      by_cases h7 : l = -1
      ·have d7 : (l != -1) = false := by rw [h7]; rfl
       obtain ⟨bl, hble⟩ : ∃ x : ByteArray, x = ⟨#[45]⟩ := ⟨_, rfl⟩
       have hbl : Hid (bl.data.toList = layT l) := Lib.hid (by rw [hble, h7]; rfl)
       have hbn : bl.size ≤ 7 := by rw [hble]; decide
       replace h7 := Lib.hid h7
       go_upto_region 21 with (fail)
       rw [← hble]
       clear ql d7 hble
       rename World => w5
       have hl1 : (Lib.decDigits on).length ≤ 7 := dD_le (by omega)
       have hl2 : (Lib.decDigits tn).length ≤ 7 := dD_le (by omega)
       have cO : Hid (∀ y : World, BW w5 y → Calls Tryz.prog 14 #[.int .i64 (on : Nat)] y fun e w' => e = .returned (.string (bS (Lib.decDigits on))) ∧ BW y w') := Lib.hid (fun y hy => cN.out.itoa y (B.out.trans hy) on hob)
       have cT : Hid (∀ y : World, BW w5 y → Calls Tryz.prog 14 #[.int .i64 (tn : Nat)] y fun e w' => e = .returned (.string (bS (Lib.decDigits tn))) ∧ BW y w') := Lib.hid (fun y hy => cN.out.itoa y (B.out.trans hy) tn htb)
       obtain ⟨bo, hbo⟩ : ∃ x, bS (Lib.decDigits on) = x := ⟨_, rfl⟩
       obtain ⟨bt, hbt⟩ : ∃ x, bS (Lib.decDigits tn) = x := ⟨_, rfl⟩
       have no : bo.size ≤ 7 := by rw [← hbo, bS_size]; exact hl1
       have nt : bt.size ≤ 7 := by rw [← hbt, bS_size]; exact hl2
       have a1 : ¬ 9223372036854775807 < 5 + bo.size := by omega
       have a2 : ¬ 9223372036854775807 < 5 + bo.size + 1 := by omega
       have a3 : ¬ 9223372036854775807 < 5 + bo.size + 1 + bt.size := by omega
       have a4 : ¬ 9223372036854775807 < 5 + bo.size + 1 + bt.size + 1 := by omega
       have a5 : ¬ 9223372036854775807 < 5 + bo.size + 1 + bt.size + 1 + bl.size := by omega
       have a6 : ¬ 9223372036854775807 < 5 + bo.size + 1 + bt.size + 1 + bl.size + 1 := by omega
       have a7 : ¬ 9223372036854775807 < S.size + (5 + bo.size + 1 + bt.size + 1 + bl.size + 1) := by omega
       have n7 : Hid ((S ++ (⟨#[104, 101, 97, 114, 32]⟩ ++ bo ++ ⟨#[32]⟩ ++ bt ++ ⟨#[32]⟩ ++ bl ++ ⟨#[10]⟩) : ByteArray).size ≤ 250 + 50 * (j + 1)) := Lib.hid (by
        simp only [ba_sz]
        show S.size + (5 + bo.size + 1 + bt.size + 1 + bl.size + 1) ≤ _
        omega)
       have hz7 : Hid ((S ++ (⟨#[104, 101, 97, 114, 32]⟩ ++ bo ++ ⟨#[32]⟩ ++ bt ++ ⟨#[32]⟩ ++ bl ++ ⟨#[10]⟩) : ByteArray).data.toList = seatT (sn : Nat) ++ W.flatMap wishT ++ (H.take (j + 1)).flatMap hearT) := Lib.hid (by
        rw [hadd.out, ba_app, hS.out]
        simp only [ba_app, ← hbt, ← hbo, hbl.out, bS_list]
        unfold hearT
        dsimp only
        simp only [List.append_assoc]
        rfl)
       rw [hbo] at cO
       rw [hbt] at cT
       clear hl1 hl2 hadd hbl hbn no nt hbo hbt
       go_upto_region 21 with (fail)
       have mo : ∀ y : LaterS [] w5, _ := fun y => y.bw.cell ((hp_cell Y.out 0).trans (show _ = some (.int .i64 (on : Nat)) from rfl))
       have mt : ∀ y : LaterS [] w5, _ := fun y => y.bw.cell ((hp_cell Y.out 1).trans (show _ = some (.int .i64 (tn : Nat)) from rfl))
       refine wp_region_gg [] [] [] (by kernel_rfl) ?_
       refine hoist [] [] (a1 := ?_) 0 rfl (by kernel_rfl) (.inl ⟨rfl, rfl⟩) rfl rfl rfl (fun x K hK => ?_) ?_
       rotate_left
       ·go_big_quiet_op
        exact hK
       refine hoist [] [] (a1 := ?_) 1 rfl (by kernel_rfl) (.inl ⟨rfl, rfl⟩) rfl rfl rfl (fun x K hK => ?_) ?_
       rotate_left
       ·go_big_quiet_op
        exact hK
       refine hoist [] [] (a1 := ?_) 2 rfl (by kernel_rfl) (.inl ⟨rfl, rfl⟩) rfl rfl rfl (fun x K hK => ?_) ?_
       rotate_left
       ·go_big_quiet_op
        exact hK
       refine hoist_call [] [] (a1 := ?_) 3 rfl (by kernel_rfl) (.inl ⟨rfl, rfl⟩) rfl rfl rfl (fun x K hK => ?_) ?_
       rotate_left
       ·go_big_quiet_op
        apply Exists.intro
        refine ⟨fun y => ?_, ?_⟩
        ·exact Calls.laterS_of (cO.out y.now (x.bw.trans y.bw))
        ·exact hK
       refine hoist [] [] (a1 := ?_) 4 rfl (by kernel_rfl) (.inl ⟨rfl, rfl⟩) rfl rfl rfl (fun x K hK => ?_) ?_
       rotate_left
       ·go_big_quiet_op
        exact hK
       refine hoist [] [] (a1 := ?_) 5 rfl (by kernel_rfl) (.inl ⟨rfl, rfl⟩) rfl rfl rfl (fun x K hK => ?_) ?_
       rotate_left
       ·go_big_quiet_op
        exact hK
       refine hoist [] [] (a1 := ?_) 6 rfl (by kernel_rfl) (.inl ⟨rfl, rfl⟩) rfl rfl rfl (fun x K hK => ?_) ?_
       rotate_left
       ·go_big_quiet_op
        exact hK
       refine hoist [] [] (a1 := ?_) 7 rfl (by kernel_rfl) (.inl ⟨rfl, rfl⟩) rfl rfl rfl (fun x K hK => ?_) ?_
       rotate_left
       ·go_big_quiet_op
        exact hK
       refine hoist_call [] [] (a1 := ?_) 8 rfl (by kernel_rfl) (.inl ⟨rfl, rfl⟩) rfl rfl rfl (fun x K hK => ?_) ?_
       rotate_left
       ·go_big_quiet_op
        apply Exists.intro
        refine ⟨fun y => ?_, ?_⟩
        ·exact Calls.laterS_of (cT.out y.now (x.bw.trans y.bw))
        ·exact hK
       refine hoist [] [] (a1 := ?_) 9 rfl (by kernel_rfl) (.inl ⟨rfl, rfl⟩) rfl rfl rfl (fun x K hK => ?_) ?_
       rotate_left
       ·go_big_quiet_op
        exact hK
       refine hoist [] [] (a1 := ?_) 10 rfl (by kernel_rfl) (.inl ⟨rfl, rfl⟩) rfl rfl rfl (fun x K hK => ?_) ?_
       rotate_left
       ·go_big_quiet_op
        exact hK
       refine hoist [] [] (a1 := ?_) 11 rfl (by kernel_rfl) (.inl ⟨rfl, rfl⟩) rfl rfl rfl (fun x K hK => ?_) ?_
       rotate_left
       ·go_big_quiet_op
        exact hK
       refine hoist [] [] (a1 := ?_) 12 rfl (by kernel_rfl) (.inl ⟨rfl, rfl⟩) rfl rfl rfl (fun x K hK => ?_) ?_
       rotate_left
       ·go_big_quiet_op
        exact hK
       refine hoist [] [] (a1 := ?_) 13 rfl (by kernel_rfl) (.inl ⟨rfl, rfl⟩) rfl rfl rfl (fun x K hK => ?_) ?_
       rotate_left
       ·go_big_quiet_op
        exact hK
       refine hoist [] [] (a1 := ?_) 14 rfl (by kernel_rfl) (.inl ⟨rfl, rfl⟩) rfl rfl rfl (fun x K hK => ?_) ?_
       rotate_left
       ·go_big_quiet_op
        exact hK
       refine hoist [] [] (a1 := ?_) 15 rfl (by kernel_rfl) (.inl ⟨rfl, rfl⟩) rfl rfl rfl (fun x K hK => ?_) ?_
       rotate_left
       ·go_big_quiet_op
        exact hK
       refine done (by kernel_rfl) (fun xr => ?_)
       have B8 := Lib.hid (B.out.trans xr.bw)
       clear B Y mo mt cO cT a1 a2 a3 a4 a5 a6 a7
       generalize xr.now = w11 at *
       clear xr
       go_wp2_with fail
       go_roundg (nH - (j + 1))
       case measure => omega
       case rel => exact ⟨j + 1, _, rfl, by omega, by first | rfl | (push_cast; rfl), rfl, n7.out, hz7, B8⟩
      ·have d7 : (l != -1) = true := bne_iff_ne.2 h7
       obtain ⟨ln, rfl⟩ : ∃ n : Nat, l = n := ⟨l.toNat, by omega⟩
       have hlb : ln < b := by simpa using hhl
       have hbl : Hid ((bS (Lib.decDigits ln)).data.toList = layT (ln : Nat)) := Lib.hid (by rw [bS_list]; unfold layT; rw [if_neg h7]; rfl)
       have hbn : (bS (Lib.decDigits ln)).size ≤ 7 := by rw [bS_size]; exact dD_le (by omega)
       replace h7 := Lib.hid h7
       go_wp2_with fail
       refine Calls.mono (cN.out.itoa _ B.out ln hlb) ?_
       rintro e w5 ⟨rfl, hb⟩
       replace B := Lib.hid (B.out.trans hb)
       replace Y := Lib.hid (Y.out.bw hb)
       clear hb ql d7
       generalize bS (Lib.decDigits ln) = bl at *
       dsimp only
       have hl1 : (Lib.decDigits on).length ≤ 7 := dD_le (by omega)
       have hl2 : (Lib.decDigits tn).length ≤ 7 := dD_le (by omega)
       have cO : Hid (∀ y : World, BW w5 y → Calls Tryz.prog 14 #[.int .i64 (on : Nat)] y fun e w' => e = .returned (.string (bS (Lib.decDigits on))) ∧ BW y w') := Lib.hid (fun y hy => cN.out.itoa y (B.out.trans hy) on hob)
       have cT : Hid (∀ y : World, BW w5 y → Calls Tryz.prog 14 #[.int .i64 (tn : Nat)] y fun e w' => e = .returned (.string (bS (Lib.decDigits tn))) ∧ BW y w') := Lib.hid (fun y hy => cN.out.itoa y (B.out.trans hy) tn htb)
       obtain ⟨bo, hbo⟩ : ∃ x, bS (Lib.decDigits on) = x := ⟨_, rfl⟩
       obtain ⟨bt, hbt⟩ : ∃ x, bS (Lib.decDigits tn) = x := ⟨_, rfl⟩
       have no : bo.size ≤ 7 := by rw [← hbo, bS_size]; exact hl1
       have nt : bt.size ≤ 7 := by rw [← hbt, bS_size]; exact hl2
       have a1 : ¬ 9223372036854775807 < 5 + bo.size := by omega
       have a2 : ¬ 9223372036854775807 < 5 + bo.size + 1 := by omega
       have a3 : ¬ 9223372036854775807 < 5 + bo.size + 1 + bt.size := by omega
       have a4 : ¬ 9223372036854775807 < 5 + bo.size + 1 + bt.size + 1 := by omega
       have a5 : ¬ 9223372036854775807 < 5 + bo.size + 1 + bt.size + 1 + bl.size := by omega
       have a6 : ¬ 9223372036854775807 < 5 + bo.size + 1 + bt.size + 1 + bl.size + 1 := by omega
       have a7 : ¬ 9223372036854775807 < S.size + (5 + bo.size + 1 + bt.size + 1 + bl.size + 1) := by omega
       have n7 : Hid ((S ++ (⟨#[104, 101, 97, 114, 32]⟩ ++ bo ++ ⟨#[32]⟩ ++ bt ++ ⟨#[32]⟩ ++ bl ++ ⟨#[10]⟩) : ByteArray).size ≤ 250 + 50 * (j + 1)) := Lib.hid (by
        simp only [ba_sz]
        show S.size + (5 + bo.size + 1 + bt.size + 1 + bl.size + 1) ≤ _
        omega)
       have hz7 : Hid ((S ++ (⟨#[104, 101, 97, 114, 32]⟩ ++ bo ++ ⟨#[32]⟩ ++ bt ++ ⟨#[32]⟩ ++ bl ++ ⟨#[10]⟩) : ByteArray).data.toList = seatT (sn : Nat) ++ W.flatMap wishT ++ (H.take (j + 1)).flatMap hearT) := Lib.hid (by
        rw [hadd.out, ba_app, hS.out]
        simp only [ba_app, ← hbt, ← hbo, hbl.out, bS_list]
        unfold hearT
        dsimp only
        simp only [List.append_assoc]
        rfl)
       rw [hbo] at cO
       rw [hbt] at cT
       clear hl1 hl2 hadd hbl hbn no nt hbo hbt
       go_upto_region 21 with (fail)
       have mo : ∀ y : LaterS [] w5, _ := fun y => y.bw.cell ((hp_cell Y.out 0).trans (show _ = some (.int .i64 (on : Nat)) from rfl))
       have mt : ∀ y : LaterS [] w5, _ := fun y => y.bw.cell ((hp_cell Y.out 1).trans (show _ = some (.int .i64 (tn : Nat)) from rfl))
       refine wp_region_gg [] [] [] (by kernel_rfl) ?_
       refine hoist [] [] (a1 := ?_) 0 rfl (by kernel_rfl) (.inl ⟨rfl, rfl⟩) rfl rfl rfl (fun x K hK => ?_) ?_
       rotate_left
       ·go_big_quiet_op
        exact hK
       refine hoist [] [] (a1 := ?_) 1 rfl (by kernel_rfl) (.inl ⟨rfl, rfl⟩) rfl rfl rfl (fun x K hK => ?_) ?_
       rotate_left
       ·go_big_quiet_op
        exact hK
       refine hoist [] [] (a1 := ?_) 2 rfl (by kernel_rfl) (.inl ⟨rfl, rfl⟩) rfl rfl rfl (fun x K hK => ?_) ?_
       rotate_left
       ·go_big_quiet_op
        exact hK
       refine hoist_call [] [] (a1 := ?_) 3 rfl (by kernel_rfl) (.inl ⟨rfl, rfl⟩) rfl rfl rfl (fun x K hK => ?_) ?_
       rotate_left
       ·go_big_quiet_op
        apply Exists.intro
        refine ⟨fun y => ?_, ?_⟩
        ·exact Calls.laterS_of (cO.out y.now (x.bw.trans y.bw))
        ·exact hK
       refine hoist [] [] (a1 := ?_) 4 rfl (by kernel_rfl) (.inl ⟨rfl, rfl⟩) rfl rfl rfl (fun x K hK => ?_) ?_
       rotate_left
       ·go_big_quiet_op
        exact hK
       refine hoist [] [] (a1 := ?_) 5 rfl (by kernel_rfl) (.inl ⟨rfl, rfl⟩) rfl rfl rfl (fun x K hK => ?_) ?_
       rotate_left
       ·go_big_quiet_op
        exact hK
       refine hoist [] [] (a1 := ?_) 6 rfl (by kernel_rfl) (.inl ⟨rfl, rfl⟩) rfl rfl rfl (fun x K hK => ?_) ?_
       rotate_left
       ·go_big_quiet_op
        exact hK
       refine hoist [] [] (a1 := ?_) 7 rfl (by kernel_rfl) (.inl ⟨rfl, rfl⟩) rfl rfl rfl (fun x K hK => ?_) ?_
       rotate_left
       ·go_big_quiet_op
        exact hK
       refine hoist_call [] [] (a1 := ?_) 8 rfl (by kernel_rfl) (.inl ⟨rfl, rfl⟩) rfl rfl rfl (fun x K hK => ?_) ?_
       rotate_left
       ·go_big_quiet_op
        apply Exists.intro
        refine ⟨fun y => ?_, ?_⟩
        ·exact Calls.laterS_of (cT.out y.now (x.bw.trans y.bw))
        ·exact hK
       refine hoist [] [] (a1 := ?_) 9 rfl (by kernel_rfl) (.inl ⟨rfl, rfl⟩) rfl rfl rfl (fun x K hK => ?_) ?_
       rotate_left
       ·go_big_quiet_op
        exact hK
       refine hoist [] [] (a1 := ?_) 10 rfl (by kernel_rfl) (.inl ⟨rfl, rfl⟩) rfl rfl rfl (fun x K hK => ?_) ?_
       rotate_left
       ·go_big_quiet_op
        exact hK
       refine hoist [] [] (a1 := ?_) 11 rfl (by kernel_rfl) (.inl ⟨rfl, rfl⟩) rfl rfl rfl (fun x K hK => ?_) ?_
       rotate_left
       ·go_big_quiet_op
        exact hK
       refine hoist [] [] (a1 := ?_) 12 rfl (by kernel_rfl) (.inl ⟨rfl, rfl⟩) rfl rfl rfl (fun x K hK => ?_) ?_
       rotate_left
       ·go_big_quiet_op
        exact hK
       refine hoist [] [] (a1 := ?_) 13 rfl (by kernel_rfl) (.inl ⟨rfl, rfl⟩) rfl rfl rfl (fun x K hK => ?_) ?_
       rotate_left
       ·go_big_quiet_op
        exact hK
       refine hoist [] [] (a1 := ?_) 14 rfl (by kernel_rfl) (.inl ⟨rfl, rfl⟩) rfl rfl rfl (fun x K hK => ?_) ?_
       rotate_left
       ·go_big_quiet_op
        exact hK
       refine hoist [] [] (a1 := ?_) 15 rfl (by kernel_rfl) (.inl ⟨rfl, rfl⟩) rfl rfl rfl (fun x K hK => ?_) ?_
       rotate_left
       ·go_big_quiet_op
        exact hK
       refine done (by kernel_rfl) (fun xr => ?_)
       have B8 := Lib.hid (B.out.trans xr.bw)
       clear B Y mo mt cO cT a1 a2 a3 a4 a5 a6 a7
       generalize xr.now = w11 at *
       clear xr
       go_wp2_with fail
       go_roundg (nH - (j + 1))
       case measure => omega
       case rel => exact ⟨j + 1, _, rfl, by omega, by first | rfl | (push_cast; rfl), rfl, n7.out, hz7, B8⟩
     ·obtain rfl : j = nH := by omega
      have dj : decide ((j : Int) < (j : Int)) = false := by simp
      have hall : H.take j = H := by rw [← hnHe.out, List.take_length]
      rw [hall] at hS
      go_wp2_with fail
      go_ret2
      exact ⟨.inl ⟨hMay.out, S, hS.out, by omega, rfl⟩, B.out⟩
end Go.Proofs.YtafhnlnhflehhaaGreatDoor
