/- The reference's Read (printed by wip/gen/genOhH.py). No condition but the sizes'. -/
import Derived.Test.YtafhnlnhflehhaaGreatDoorOhF
import Derived.Test.YtafhnlnhflehhaaGreatDoorOhD
namespace Go.Proofs.YtafhnlnhflehhaaGreatDoor
open Go.RowKit
theorem hp_newH (w : World) (o o2 : Obj) : HpB ((w.alloc o).alloc o2) (w.heap.size + 1) o2 := by
 have := HpB.new (w.alloc o) o2
 rwa [show (w.alloc o).heap.size = w.heap.size + 1 from by simp] at this
theorem swLdG {T : TypeId} {n : Nat} {ops : Array Oper} {rest : List Oper} {o : Oper} {a : Act} {w : World} {Q : Exit → Act → World → Prop} (hT : SwT T n) (hw : Region.wanted o (yielded ops a.tmps) = true) {x : Operand} (ho : o.op = .load T x) {g : Nat} (hx : a.eval x = .pointer (some ⟨g, 0, none⟩)) {c : Array Value} {t : TypeId} (H : HpB w g (.cells c t)) (hl : c.size = n)
  (h : wpList Tryz.prog ops Q rest (a.put o.dst (.agg c)) w) : wpList Tryz.prog ops Q (o :: rest) a w :=
 have ⟨d, h1, h2, _⟩ := hT.hu
 BigFrame.wpList_want hw (fun _ hK => wp_load_row T x ho _ hx _ _ _ _ H h1 (by cases d <;> first | rfl | cases h2) (by rw [hT.hi, hl]) (hK _ _ h))
def RfRes (S : ByteArray) (w' : World) (e : Ending) : Prop :=
 (∃ (d : OffD) (cs : Array Value) (sW : Option Addr) (cW : Nat) (sH : Option Addr) (cH : Nat), MayO d ∧ S.data.toList = offT d ∧ OffV w' cs d sW cW sH cH ∧ e = .returned (.tuple #[.agg cs, .bool true])) ∨
 ((∀ o, MayO o → S.data.toList ≠ offT o) ∧ e = .returned (.tuple #[.agg #[.int .i64 0, .slice none 0 0, .slice none 0 0], .bool false]))
theorem bS_toList (x : BL) : (bS x).toList = x := by rw [ByteArray.toList_eq, bS_list]
theorem key_eq {x k : BL} (h : x = k) : ((bS x).toList == k) = true := by rw [bS_toList, h]; exact beq_self_eq_true _
theorem key_ne {x k : BL} (h : x ≠ k) : ((bS x).toList == k) = false := by rw [bS_toList]; exact beq_eq_false_iff_ne.2 h
theorem ba_beq {x y : ByteArray} (h : x = y) : (x.toList == y.toList) = true := by rw [h]; exact beq_self_eq_true _
theorem ba_bne {x y : ByteArray} (h : x ≠ y) : (x.toList == y.toList) = false := beq_eq_false_iff_ne.2 (fun e => h (ba_ext (by rw [← ByteArray.toList_eq, ← ByteArray.toList_eq, e])))
theorem RdS.stO {w w' : World} {base g k : Nat} {d : OffD} {sW : Option Addr} {nW cW : Nat} {sH : Option Addr} {nH cH : Nat} (h : RdS w base g d sW nW cW sH nH cH) (T : Still [k] w w') (hk : k < base) (hg : k ≠ g) : RdS w' base g d sW nW cW sH nH cH :=
 ⟨h.hp.st T (by simpa using Ne.symm hg), h.lt, h.qw.old T (by simpa using hk), h.qh.old T (by simpa using hk)⟩
theorem joinC_len (c : UInt8) : ∀ (ps : List BL) (p : BL), p ∈ ps → p.length ≤ (joinC c ps).length
 | [], p, h => by cases h
 | [a], p, h => by obtain rfl := List.mem_singleton.1 h; exact Nat.le_refl _
 | a :: b :: r, p, h => by
  rw [joinC_cons (by simp), List.length_append, List.length_cons]
  rcases List.mem_cons.1 h with rfl | h
  ·omega
  ·have := joinC_len c (b :: r) p h
   omega
theorem cut_len {c : UInt8} {l : BL} {p : BL} (h : p ∈ cutB c l) : p.length ≤ l.length := by
 have := joinC_len c (cutB c l) p h
 rwa [join_cut] at this
theorem part_keep {o : OffD} {i : Nat} {ws : List BL} (h : LineK o i ws) (h1 : ∀ a, ws ≠ [kOffer, a]) (h2 : ∀ a b c, ws ≠ [kTrack, a, b, c]) (h3 : ∀ a b c, ws ≠ [kHear, a, b, c]) : partO o i = partO o (i + 1) := by
 cases h with
 | seat _ e => exact absurd e (h1 _)
 | wish _ _ _ e => exact absurd e (h2 _ _ _)
 | hear _ _ _ e => exact absurd e (h3 _ _ _)
 | last h => rw [part_all o (by omega), part_all o (by omega)]
theorem part_seatS {o : OffD} {i : Nat} {x : BL} {d : OffD} {v : Int} (hM : MayO o) (h : LineK o i [kOffer, x]) (hd : d = partO o i) (hv : ∀ n : Nat, n ≤ 1048576 → x = Lib.decDigits n → v = n) : { d with seat := v } = partO o (i + 1) := by
 cases h with
 | seat hi e =>
  subst hi
  simp only [List.cons.injEq, and_true, true_and] at e
  have hs := hM.1
  unfold Sm at hs
  have := hv o.seat.toNat (by omega) e
  rw [hd, part_zero, part_one, this]
  congr 1
  omega
 | wish _ _ _ e => simp at e
 | hear _ _ _ e => simp at e
 | last _ e => simp at e
theorem part_trackS {o : OffD} {i : Nat} {x y z : BL} {d : OffD} {a c : Int} {ls : List Nat} (hM : MayO o) (h : LineK o i [kTrack, x, y, z]) (hd : d = partO o i) (ha : ∀ n : Nat, n ≤ 1048576 → x = Lib.decDigits n → a = n) (hc : ∀ c' : Int, 0 ≤ c' ∧ c' < 3 → y = codT c' → c = c') (hs : ∀ l : List Nat, l ≠ [] → (∀ q ∈ l, q ≤ 1048576) → z = srcT l → ls = l) : { d with W := d.W ++ [⟨a, c, ls⟩] } = partO o (i + 1) := by
 cases h with
 | seat _ e => simp at e
 | hear _ _ _ e => simp only [List.cons.injEq] at e; exact absurd e.1 (by decide)
 | last _ e => simp at e
 | wish j hj hi e =>
  subst hi
  simp only [List.cons.injEq, and_true, true_and] at e
  obtain ⟨e1, e2, e3⟩ := e
  have hk := hM.2.1.1 j hj
  have hne := (okW_inj hk).2.2
  obtain ⟨w1, w2, -, -⟩ := hk
  unfold Sm at w1
  have q1 := ha (wi o.W j).t.toNat (by omega) e1
  have q2 := hc _ w2 e2
  have q3 := hs _ hne (fun q hq => by
   obtain ⟨k, hk, rfl⟩ := List.mem_iff_getElem.1 hq
   have := hM.2.1.2.2.2 _ (src_mem hj hk)
   omega) e3
  rw [hd, part_wish o hj]
  congr 2
  have e5 : (⟨a, c, ls⟩ : WishD) = wi o.W j := by
   generalize wi o.W j = q at *
   obtain ⟨qt, qc, qs⟩ := q
   simp only at *
   rw [q2, q3]
   congr 1
   omega
  rw [e5]
theorem src_parts {z : BL} {ls : List Nat} (hlen : ls.length = (cutB 44 z).length) (h : ∀ q x, (cutB 44 z)[q]? = some x → ∀ n : Nat, n ≤ 1048576 → x = Lib.decDigits n → ls.getD q 0 = n) : ∀ l : List Nat, l ≠ [] → (∀ q ∈ l, q ≤ 1048576) → z = srcT l → ls = l := by
 intro l hne hb e
 rw [e, words_src hne] at hlen h
 rw [List.length_map] at hlen
 refine List.ext_getElem hlen fun q h1 h2 => ?_
 have := h q (Lib.decDigits l[q]) (by simp [List.getElem?_eq_getElem h2]) l[q] (hb _ (List.getElem_mem h2)) rfl
 rwa [getD_lt h1] at this
theorem part_hearS {o : OffD} {i : Nat} {x y z : BL} {d : OffD} {a b l : Int} (hM : MayO o) (h : LineK o i [kHear, x, y, z]) (hd : d = partO o i) (ha : ∀ n : Nat, n ≤ 1048576 → x = Lib.decDigits n → a = n) (hb : ∀ n : Nat, n ≤ 1048576 → y = Lib.decDigits n → b = n) (hl1 : z = [45] → l = -1) (hl2 : z ≠ [45] → ∀ n : Nat, n ≤ 1048576 → z = Lib.decDigits n → l = n) : { d with H := d.H ++ [⟨a, b, l⟩] } = partO o (i + 1) := by
 cases h with
 | seat _ e => simp at e
 | wish _ _ _ e => simp only [List.cons.injEq] at e; exact absurd e.1.symm (by decide)
 | last _ e => simp at e
 | hear j hj hi e =>
  subst hi
  simp only [List.cons.injEq, and_true, true_and] at e
  obtain ⟨e1, e2, e3⟩ := e
  obtain ⟨w1, w2, w3, -, -⟩ := hM.2.2.1 j hj
  unfold Sm at w1 w2
  have q1 := ha (he o.H j).o.toNat (by omega) e1
  have q2 := hb (he o.H j).t.toNat (by omega) e2
  have q3 : l = (he o.H j).l := by
   by_cases hz : z = [45]
   ·rw [hl1 hz]
    rw [hz] at e3
    exact layT_inj (by omega) (by omega) (show layT (-1) = _ from e3)
   ·have hne : (he o.H j).l ≠ -1 := fun hh => hz (by rw [e3, hh]; rfl)
    have e4 : layT (he o.H j).l = Lib.decDigits (he o.H j).l.toNat := by unfold layT; rw [if_neg hne]; rfl
    have := hl2 hz (he o.H j).l.toNat (by omega) (by rw [e3, e4])
    omega
  rw [hd, part_hear o hj]
  congr 2
  have e5 : (⟨a, b, l⟩ : HearD) = he o.H j := by
   generalize he o.H j = q at *
   obtain ⟨qo, qt, ql⟩ := q
   simp only at *
   rw [q3]
   congr 1 <;> omega
  rw [e5]
set_option maxRecDepth 100000 in
set_option maxHeartbeats 8000000 in
theorem rread_any (S : ByteArray) (hS : S.size ≤ 2000) (w : World) :
  Calls Tryz.prog 12 #[.string S] w fun e w' => RfRes S w' e ∧ BW w w' := by
 have B := ((BW.refl w).alloc (o := .cells #[.int .i64 0, .slice none 0 0, .slice none 0 0] 25)).alloc (o := .cells #[.int .i64 0, .slice none 0 0, .slice none 0 0] 25)
 have G2 := (HpB.new w (.cells #[.int .i64 0, .slice none 0 0, .slice none 0 0] 25)).bw ((BW.refl _).alloc (o := .cells #[.int .i64 0, .slice none 0 0, .slice none 0 0] 25))
 have G4 := hp_newH w (.cells #[.int .i64 0, .slice none 0 0, .slice none 0 0] 25) (.cells #[.int .i64 0, .slice none 0 0, .slice none 0 0] 25)
 have cC := cut_any S 10 (by omega)
 have h24 : w.heap.size ≠ w.heap.size + 1 := by omega
 have h4 : w.heap.size ≤ w.heap.size + 1 := by omega
 replace B := Lib.hid B
 replace G2 := Lib.hid G2
 replace G4 := Lib.hid G4
 replace cC := Lib.hid cC
 replace h24 := Lib.hid h24
 replace h4 := Lib.hid h4
 go_enter Tryz.func12, Tryz.ntmps12
 go_upto_region 2 with (fail)
 generalize (w.alloc _).alloc _ = w1 at *
 generalize w.heap.size + 1 = g4 at *
 generalize hgw : w.heap.size = g2 at *
 replace hgw := Lib.hid hgw
 go_wp2_with fail
 refine Calls.mono (cC.out w1) ?_
 rintro e w3 ⟨s5, m, c5, rfl, hm, Q5, hb⟩
 have hg1 : g4 < w1.heap.size := G4.out.lt
 have hb3 : g4 < w3.heap.size := Nat.lt_of_lt_of_le hg1 hb.size
 replace G2 := Lib.hid (G2.out.bw hb)
 replace G4 := G4.out.bw hb
 replace B := Lib.hid (B.out.trans hb)
 have hLm := Q5.1
 rw [List.length_map] at hLm
 obtain ⟨La, Lr, hLf⟩ := cutB_form 10 S.data.toList
 have hm0 : 0 < m := by rw [← hLm, hLf]; simp
 obtain ⟨_, _, he, hmc, hcm⟩ := Q5.len
 cases he
 unfold maxLen at hcm
 obtain ⟨g5, o5, rfl, hc5⟩ := str_cells Q5 hm0
 have h54 : g5 ≠ g4 := by
  have := Q5.ge' g5 (by simp [Value.ownBlock])
  omega
 replace hc5 := Lib.hid hc5
 clear hb Q5 hLf cC hg1
 obtain ⟨b3, hbe⟩ : ∃ b, w3.heap.size = b := ⟨_, rfl⟩
 rw [hbe] at hb3
 have hR : Hid (RdS w3 b3 g4 ⟨0, [], []⟩ none 0 0 none 0 0) := Lib.hid ⟨G4, hb3, EQ.nil _ _ _ _, EQ.nil _ _ _ _⟩
 have hP : Hid (∀ o, MayO o → S.data.toList = offT o → (⟨0, [], []⟩ : OffD) = partO o 0) := Lib.hid (fun o _ _ => (part_zero o).symm)
 replace hbe := Lib.hid hbe
 replace hb3 := Lib.hid hb3
 replace hLm := Lib.hid hLm
 replace h54 := Lib.hid h54
 clear G4
 dsimp only
 go_upto_region 4 with (fail)
 go_loopg [6] m (fun m' v6 wx => ∃ (i : Nat) (d : OffD) (sW : Option Addr) (nW cW : Nat) (sH : Option Addr) (nH cH : Nat), m' = m - i ∧ i ≤ m ∧ v6 = .int .i64 (i : Nat) ∧ nW ≤ i ∧ nH ≤ i ∧ Hid (RdS wx b3 g4 d sW nW cW sH nH cH) ∧ Hid (∀ o, MayO o → S.data.toList = offT o → d = partO o i) ∧ Hid (Still [g4] w3 wx))
 case atStart => exact ⟨0, _, none, 0, 0, none, 0, 0, by omega, by omega, rfl, by omega, by omega, hR, hP, Lib.hid (Still.refl _ _)⟩
 case round =>
  clear hR hP
  obtain ⟨i, d, sW, nW, cW, sH, nH, cH, rfl, hi, rfl, hnWi, hnHi, R, hP, T⟩ := hrel
  by_cases him : i < m
  ·have di : decide ((i : Int) < (m : Int)) = true := by simp; omega
   have hiL : i < (cutB 10 S.data.toList).length := by rw [hLm.out]; exact him
   have hll : (cutB 10 S.data.toList)[i]? = some (cutB 10 S.data.toList)[i] := List.getElem?_eq_getElem hiL
   generalize (cutB 10 S.data.toList)[i] = line at *
   have hK : Hid (∀ o, MayO o → S.data.toList = offT o → LineK o i (cutB 32 line)) := Lib.hid (fun o _ e => lineK o (by rw [← cut_offT, ← e]; exact hll))
   have hlsz : (bS line).size ≤ 2000 := by
    rw [bS_size]
    have := cut_len (List.mem_of_getElem? hll)
    rw [← ba_size] at this
    omega
   have zl := T.out.cellN (hc5.out i line hll) (by simp [h54.out])
   have cC := fun y : World => cut_any (bS line) 32 (by omega) y
   rw [bS_list] at cC
   replace cC := Lib.hid cC
   have hwr := Lib.hid (Nat.le_trans (Nat.le_of_eq hbe.out.symm) T.out.size)
   clear hll hiL
   go_wp2_with fail
   refine Calls.mono (cC.out wr) ?_
   rintro e w5 ⟨s7, n, c7, rfl, hn, Q7, hb⟩
   clear zl cC
   replace R := Lib.hid (R.out.bw hb)
   replace T := Lib.hid (T.out.trans (hb.still _))
   have hwn := Q7.1
   rw [List.length_map] at hwn
   have hg7 : 0 < n := by
    obtain ⟨a, r, e⟩ := cutB_form 32 line
    rw [← hwn, e]; simp
   obtain ⟨_, _, he, hnc, hcn⟩ := Q7.len
   cases he
   unfold maxLen at hcn
   obtain ⟨g7, o7, rfl, hc7⟩ := str_cells Q7 hg7
   have h74 : g7 ≠ g4 := by
    have h1 := Q7.ge' g7 (by simp [Value.ownBlock])
    have h3 := hb3.out
    have h5 := hwr.out
    omega
   replace h74 := Lib.hid h74
   have hw5 := Lib.hid (Nat.le_trans hwr.out hb.size)
   have hr7 := Lib.hid (Q7.row g7 (by simp [Value.ownBlock]))
   clear hb Q7
   have hx : Hid (∀ x ∈ cutB 32 line, x.length ≤ 2000) := Lib.hid (fun x hx => by have := cut_len hx; rw [bS_size] at hlsz; omega)
   generalize hwse : cutB 32 line = ws at *
   replace hc7 := Lib.hid hc7
   replace hwse := Lib.hid hwse
   dsimp only
   by_cases h2 : n = 2
   ·subst h2
    obtain ⟨p0, p1, rfl⟩ : ∃ a b, ws = [a, b] := by
     rcases ws with _ | ⟨a, _ | ⟨b, _ | ⟨c, r⟩⟩⟩ <;> simp at hwn
     exact ⟨a, b, rfl⟩
    clear hwn
    have z0 := hc7.out 0 p0 rfl
    have z1 := hc7.out 1 p1 rfl
    rw [Nat.add_zero] at z0
    by_cases hk : p0 = kOffer
    ·have dk : ((bS p0).toList == [111, 102, 102, 101, 114]) = true := key_eq hk
     subst hk
     go_wp2_with fail
     refine Calls.mono (num_any (bS p1) (by rw [bS_size]; have := hx.out p1 (by simp); omega) w5) ?_
     rintro e w6 ⟨⟨v, rfl, hv1, hv2, hv⟩, hb⟩
     rw [bS_list] at hv
     replace R := R.out.bw hb
     replace T := T.out.trans (hb.still _)
     have y0 := (hp_cell R.hp 0).trans (show _ = some (.int .i64 d.seat) from rfl)
     have f0 := hp_frz R.hp 0
     have R := Lib.hid (R.seat v)
     have T := Lib.hid (T.own3 (still_setR w6 g4 0 (.int .i64 v)) (fun k hk => .inl hk))
     replace hP : Hid (∀ o, MayO o → S.data.toList = offT o → { d with seat := v } = partO o (i + 1)) := Lib.hid (fun o hM e => part_seatS hM (hK.out o hM e) (hP.out o hM e) hv)
     clear hK hc7 hv hb z0 z1
     dsimp only
     go_wp2_with fail
     go_roundg (m - (i + 1))
     case measure => omega
     case rel => exact ⟨i + 1, _, _, _, _, _, _, _, rfl, by omega, by first | rfl | (push_cast; rfl), by omega, by omega, R, hP, T⟩
    ·have dk : ((bS p0).toList == [111, 102, 102, 101, 114]) = false := key_ne hk
     replace hP : Hid (∀ o, MayO o → S.data.toList = offT o → d = partO o (i + 1)) := Lib.hid (fun o hM e => by
      rw [hP.out o hM e]
      exact part_keep (hK.out o hM e) (fun a e => hk (by simp only [List.cons.injEq] at e; exact e.1)) (fun a b c e => by simp at e) (fun a b c e => by simp at e))
     clear hK hc7
     replace hk := Lib.hid hk
     go_wp2_with fail
     go_roundg (m - (i + 1))
     case measure => omega
     case rel => exact ⟨i + 1, _, _, _, _, _, _, _, rfl, by omega, by first | rfl | (push_cast; rfl), by omega, by omega, R, hP, T⟩
   have d2 : ((n : Int) == 2) = false := beq_eq_false_iff_ne.2 (by omega)
   by_cases h4n : n = 4
   ·subst h4n
    obtain ⟨p0, p1, p2, p3, rfl⟩ : ∃ a b c d, ws = [a, b, c, d] := by
     rcases ws with _ | ⟨a, _ | ⟨b, _ | ⟨c, _ | ⟨d, _ | ⟨e, r⟩⟩⟩⟩⟩ <;> simp at hwn
     exact ⟨a, b, c, d, rfl⟩
    clear hwn d2 h2
    have z0 := hc7.out 0 p0 rfl
    rw [Nat.add_zero] at z0
    by_cases hk : p0 = kTrack
    ·have dk : ((bS p0).toList == [116, 114, 97, 99, 107]) = true := key_eq hk
     have dk2 : ((bS p0).toList == [104, 101, 97, 114]) = false := key_ne (by rw [hk]; decide)
     subst hk
     have z1 := hc7.out 1 p1 rfl
     have z2 := hc7.out 2 p2 rfl
     have z3 := Lib.hid (hc7.out 3 p3 rfl)
     have h7l : Hid (g7 < w5.heap.size) := Lib.hid (World.block_lt_of_cell? _ _ z1)
     go_upto_region 10 with (fail)
     clear z0
     go_wp2_with fail
     refine Calls.mono (num_any (bS p1) (by rw [bS_size]; have := hx.out p1 (by simp); omega) w5) ?_
     rintro e w6 ⟨⟨vt, rfl, hvt1, hvt2, hvt⟩, hb⟩
     rw [bS_list] at hvt
     replace hvt := Lib.hid hvt
     clear z1
     dsimp only
     go_upto_region 11 with (refine wpList_store_new rfl 41 _ _ rfl _ #[.int .i64 vt, .int .i64 (-1), .slice none 0 0] _ rfl rfl (by kernel_rfl) rfl rfl ?_)
     have D := Lib.hid (hb.alloc (o := .cells #[.int .i64 vt, .int .i64 (-1), .slice none 0 0] 41))
     have X := HpB.new w6 (.cells #[.int .i64 vt, .int .i64 (-1), .slice none 0 0] 41)
     have hgx : w5.heap.size ≤ w6.heap.size := hb.size
     clear hb
     generalize w6.alloc _ = w7 at *
     generalize w6.heap.size = gx at *
     have h7x : Hid (g7 ≠ gx) := Lib.hid (by have := h7l.out; omega)
     replace hgx := Lib.hid hgx
     replace z2 := D.out.cell z2
     have y1 := (hp_cell X 1).trans (show _ = some (.int .i64 (-1)) from rfl)
     have f1 := hp_frz X 1
     replace X := Lib.hid X
     by_cases e1 : p2 = [112, 108, 97, 105, 110]
     ·have q1 : ((bS p2).toList == [112, 108, 97, 105, 110]) = true := key_eq e1
      have q2 : ((bS p2).toList == [118, 112, 56]) = false := key_ne (by rw [e1]; decide)
      have q3 : ((bS p2).toList == [97, 118, 99]) = false := key_ne (by rw [e1]; decide)
      have hcod : Hid (∀ c' : Int, 0 ≤ c' ∧ c' < 3 → p2 = codT c' → (0 : Int) = c') := Lib.hid (fun c' hc e => codT_inj (by omega) hc (by rw [← e, e1]; rfl))
      have z2' := (still_setR w7 gx 1 (.int .i64 0)).cellN z2 (by simpa using h7x.out)
      clear e1
      try clear e2
      try clear e3
      go_upto_region 17 with (fail)
      obtain ⟨cv, hcv⟩ : ∃ c : Int, 0 = c := ⟨_, rfl⟩
      replace X := Lib.hid (show HpB (w7.setCell ⟨gx, 1, none⟩ (.int .i64 0)) gx (.cells #[.int .i64 vt, .int .i64 0, .slice none 0 0] 41) from hp_set X.out 1 _)
      replace D := Lib.hid (D.out.stP (still_setR w7 gx 1 (.int .i64 0)) (fun k hk => by obtain rfl : k = gx := (by simpa using hk); exact hgx.out))
      clear z2 z2' y1 f1 q1 q2 q3
      replace hcod : Hid (∀ c' : Int, 0 ≤ c' ∧ c' < 3 → p2 = codT c' → cv = c') := Lib.hid (fun c' h1 h2 => by rw [← hcv]; exact hcod.out c' h1 h2)
      generalize w7.setCell _ _ = w7 at *
      rw [hcv] at X
      clear hcv
      have z3' := D.out.cell z3.out
      go_wp2_with fail
      refine Calls.mono (cut_any (bS p3) 44 (by rw [bS_size]; have := hx.out p3 (by simp); omega) w7) ?_
      rintro e w8 ⟨s8, n8, c8, rfl, hn8, Q8, hb⟩
      rw [bS_size] at hn8
      rw [bS_list] at Q8
      have hgx7 := X.out.lt
      replace D := Lib.hid (D.out.trans hb)
      replace X := Lib.hid (X.out.bw hb)
      have hn8' : n8 ≤ 2001 := by have := hx.out p3 (by simp); omega
      have hpl := Q8.1
      rw [List.length_map] at hpl
      have h80 : 0 < n8 := by
       obtain ⟨a, r, e⟩ := cutB_form 44 p3
       rw [← hpl, e]; simp
      obtain ⟨_, _, he, hn8c, hc8m⟩ := Q8.len
      cases he
      unfold maxLen at hc8m
      obtain ⟨g8, o8, rfl, hc8⟩ := str_cells Q8 h80
      have h8x : Hid (g8 ≠ gx) := Lib.hid (by
       have := Q8.ge' g8 (by simp [Value.ownBlock])
       omega)
      clear hb Q8 z3' hn8 hgx7
      generalize hpe : cutB 44 p3 = parts at *
      replace hc8 := Lib.hid hc8
      replace hpl := Lib.hid hpl
      replace hpe := Lib.hid hpe
      have hqs : Hid (∀ x ∈ parts, x.length ≤ 2000) := Lib.hid (fun x hxx => by
       rw [← hpe.out] at hxx
       have := cut_len hxx
       have := hx.out p3 (by simp)
       omega)
      obtain ⟨b5, hb5⟩ : ∃ b, w8.heap.size = b := ⟨_, rfl⟩
      have hb35 : Hid (b3 ≤ b5) := Lib.hid (Nat.le_trans hw5.out (by rw [← hb5]; exact D.out.size))
      have hU : Hid (EQ EU4 38 w8 b5 (.slice none 0 0) 0 []) := Lib.hid (EQ.nil _ _ _ _)
      have hV : Hid (∀ q x, q < 0 → parts[q]? = some x → ∀ n : Nat, n ≤ 1048576 → x = Lib.decDigits n → ([] : List Nat).getD q 0 = n) := Lib.hid (fun q x h => absurd h (Nat.not_lt_zero _))
      replace hb5 := Lib.hid hb5
      dsimp only
      go_upto_region 19 with (fail)
      go_loopg [10] n8 (fun m' v10 wx => ∃ (j : Nat) (ls : List Nat) (sU : Option Addr) (cU : Nat), m' = n8 - j ∧ j ≤ n8 ∧ v10 = .int .i64 (j : Nat) ∧ Hid (HpB wx gx (.cells #[.int .i64 vt, .int .i64 cv, .slice sU j cU] 41)) ∧ Hid (EQ EU4 38 wx b5 (.slice sU j cU) j ls) ∧ Hid (∀ q x, q < j → parts[q]? = some x → ∀ n : Nat, n ≤ 1048576 → x = Lib.decDigits n → ls.getD q 0 = n) ∧ Hid (Still [gx] w8 wx))
      case atStart => exact ⟨0, [], none, 0, by omega, by omega, rfl, X, hU, hV, Lib.hid (Still.refl _ _)⟩
      case round =>
       clear X hU hV
       obtain ⟨j, ls, sU, cU, rfl, hj, rfl, X, U, V, T8⟩ := hrel
       obtain ⟨_, _, he, hjc, hcUm⟩ := U.out.len
       cases he
       unfold maxLen at hcUm
       by_cases hjn : j < n8
       ·have dj : decide ((j : Int) < (n8 : Int)) = true := by simp; omega
        have hjl : j < parts.length := by rw [hpl.out]; exact hjn
        have hjg : parts[j]? = some parts[j] := List.getElem?_eq_getElem hjl
        have hjm : parts[j] ∈ parts := List.getElem_mem hjl
        generalize parts[j] = pj at *
        have zp := T8.out.cellN (a := ⟨g8, o8 + j, none⟩) (hc8.out j pj hjg) (by simpa using h8x.out)
        have c1 := Lib.hid (fun y : World => num_any (bS pj) (by rw [bS_size]; have := hqs.out pj hjm; omega) y)
        have hls := Lib.hid U.out.1
        replace hjg := Lib.hid hjg
        clear hjm hjl
        go_upto_region 21 with (fail)
        have m0 : ∀ y : LaterS [] wr, _ := fun y => y.bw.cell zp
        have m1 : ∀ y : LaterS [] wr, _ := fun y => y.bw.cell ((hp_cell X.out 2).trans (show _ = some (.slice sU j cU) from rfl))
        clear zp
        refine wp_region_gg ((Value.slice sU j cU).ownBlock.toList) [9] [10] (by kernel_rfl) ?_
        refine hoist [] [9] (a1 := ?_) 0 rfl (by kernel_rfl) (.inl ⟨rfl, rfl⟩) rfl rfl rfl (fun x K hK => ?_) ?_
        rotate_left
        ·go_big_quiet_op
         exact hK
        refine hoist [] [9] (a1 := ?_) 1 rfl (by kernel_rfl) (.inl ⟨rfl, rfl⟩) rfl rfl rfl (fun x K hK => ?_) ?_
        rotate_left
        ·go_big_quiet_op
         exact hK
        refine hoist [] [9] (a1 := ?_) 2 rfl (by kernel_rfl) (.inl ⟨rfl, rfl⟩) rfl rfl rfl (fun x K hK => ?_) ?_
        rotate_left
        ·go_big_quiet_op
         exact hK
        refine hoist [] [9] (a1 := ?_) 3 rfl (by kernel_rfl) (.inl ⟨rfl, rfl⟩) rfl rfl rfl (fun x K hK => ?_) ?_
        rotate_left
        ·go_big_quiet_op
         exact hK
        refine hoist [] [9] (a1 := ?_) 4 rfl (by kernel_rfl) (.inl ⟨rfl, rfl⟩) rfl rfl rfl (fun x K hK => ?_) ?_
        rotate_left
        ·go_big_quiet_op
         exact hK
        refine hoist [] [9] (a1 := ?_) 5 rfl (by kernel_rfl) (.inl ⟨rfl, rfl⟩) rfl rfl rfl (fun x K hK => ?_) ?_
        rotate_left
        ·go_big_quiet_op
         exact hK
        refine effect 6 rfl (by kernel_rfl) (by kernel_rfl) rfl (fun x6 K hK => ?_)
        go_simp
        refine Calls.mono (c1.out x6.now) ?_
        rintro e w9 ⟨⟨vj, rfl, hv1, hv2, hvj⟩, hb⟩
        refine hK _ _ (hb.still _) ?_
        rw [bS_list] at hvj
        obtain ⟨xn, hxn⟩ : ∃ n : Nat, vj % 4294967296 = n := ⟨(vj % 4294967296).toNat, by omega⟩
        have hxj : Hid (∀ n : Nat, n ≤ 1048576 → pj = Lib.decDigits n → xn = n) := Lib.hid (fun n hn e => by have := hvj n hn e; omega)
        have BB := Lib.hid (x6.bw.trans hb)
        clear hb hK K m0 m1 hvj c1
        try simp only [Act.put, List.setIfInBounds_toArray, List.set_cons_succ, List.set_cons_zero]
        refine hoist [] [9] (a1 := ?_) 7 rfl (by kernel_rfl) (.inl ⟨rfl, rfl⟩) rfl rfl rfl (fun x K hK => ?_) ?_
        rotate_left
        ·go_big_quiet_op
         exact hK
        refine effect 8 rfl (by kernel_rfl) (by kernel_rfl) rfl (fun x8 K hK => ?_)
        go_simp
        refine hK _ _ (Still.of_below ((Below.refl _ _).alloc (Nat.le_refl _) _)) ?_
        clear hK K
        have L := Lib.hid (Sls.new1 (E := EU4) x8.now 38 (u4V xn) rfl)
        replace BB := Lib.hid (BB.out.trans (x8.bw.alloc (o := .cells #[.int .u32 (xn : Nat)] 38)))
        replace L : Hid (Sls (x8.now.alloc (.cells #[.int .u32 (xn : Nat)] 38)) EU4.size (.slice (some ⟨x8.now.heap.size, 0, none⟩) 1 1) 1 (u4V xn)) := L
        generalize x8.now.alloc _ = w10 at *
        generalize x8.now.heap.size = g10 at *
        try simp only [Act.put, List.setIfInBounds_toArray, List.set_cons_succ, List.set_cons_zero]
        refine effect 9 rfl (by kernel_rfl) (by kernel_rfl) rfl (fun x9 K hK => ?_)
        have B9 := BB.out.trans x9.bw
        have U9 := U.out.bw B9
        have X9 := X.out.bw B9
        have T9 := T8.out.trans (B9.still _)
        refine wp_apEQ slU4 _ _ rfl b5 (.slice sU j cU) j ls rfl U9 _ rfl 1 [xn] (u4V xn) (L.out.bw x9.bw) (EL.single rfl) rfl (by omega) (Nat.le_trans (Nat.le_of_eq hb5.out.symm) T9.size) (fun _ _ => trivial) ?_
        intro s11 c11 w11 hc11 hm11 E11 T11 B11 G11
        unfold maxLen at hm11
        refine hK _ _ T11 ?_
        have X11 := Lib.hid (X9.st T11 (fun hm => U9.ne X9 (by decide) _ (by simpa using hm) rfl))
        have Tn : Hid (Still [gx] w8 w11) := Lib.hid (T9.own3 T11 (fun k hk => .inr (by rw [hb5.out]; exact U9.ge' k (by simpa using hk))))
        have E12 := Lib.hid E11
        clear hK K BB L B9 U9 X9 T9 E11 T11 B11 G11
        try simp only [Act.put, List.setIfInBounds_toArray, List.set_cons_succ, List.set_cons_zero]
        refine tail 10 rfl (by kernel_rfl) rfl (fun xr => ?_)
        simp only [List.drop_succ_cons, List.drop_zero]
        have X12 := X11.out.bw xr.bw
        have y2 := (hp_cell X12 2).trans (show _ = some (.slice sU j cU) from rfl)
        have f2 := hp_frz X12 2
        have E13 := E12.out.bw xr.bw
        have T13 := Tn.out.trans (xr.bw.still _)
        clear X11 E12 Tn
        generalize xr.now = w12 at *
        clear xr
        have hxl := X12.lt
        have V2 : Hid (∀ q x, q < j + 1 → parts[q]? = some x → ∀ n : Nat, n ≤ 1048576 → x = Lib.decDigits n → (ls ++ [xn]).getD q 0 = n) := Lib.hid (fun q x hq hxq n hn e => by
         by_cases hqj : q < j
         ·have := V.out q x hqj hxq n hn e
          rw [← this]
          unfold List.getD
          rw [List.getElem?_append_left (by rw [hls.out]; exact hqj)]
         ·obtain rfl : q = j := by omega
          have h1 : x = pj := Option.some.inj (hxq.symm.trans hjg.out)
          have := hxj.out n hn (by rw [← h1]; exact e)
          unfold List.getD
          rw [List.getElem?_append_right (by rw [hls.out]; exact Nat.le_refl _), hls.out, Nat.sub_self]
          exact this)
        have hgn : Hid (∀ k ∈ (Value.slice s11 (j + 1) c11).ownBlock.toList, k ≠ gx) := Lib.hid (fun k hk => by
         have h1 := E13.ne X12 (by decide) k (by simpa using hk)
         exact h1)
        have XN : Hid (HpB (w12.setCell ⟨gx, 2, none⟩ (.slice s11 (j + 1) c11)) gx (.cells #[.int .i64 vt, .int .i64 cv, .slice s11 (j + 1) c11] 41)) := Lib.hid (hp_set X12 2 _)
        have EN : Hid (EQ EU4 38 (w12.setCell ⟨gx, 2, none⟩ (.slice s11 (j + 1) c11)) b5 (.slice s11 (j + 1) c11) (j + 1) (ls ++ [xn])) := Lib.hid (E13.still (still_setR w12 gx 2 _) (fun _ _ => trivial) (fun k hk hm => hgn.out k (by simpa using hk) (by simpa using hm)))
        have T14 : Hid (Still [gx] w8 (w12.setCell ⟨gx, 2, none⟩ (.slice s11 (j + 1) c11))) := Lib.hid (T13.own3 (still_setR w12 gx 2 _) (fun k hk => .inl hk))
        clear V hxj hgn X12 E13 T13 hls hjg U X T8 hxl
        go_wp2_with fail
        go_roundg (n8 - (j + 1))
        case measure => omega
        case rel => exact ⟨j + 1, ls ++ [xn], s11, c11, rfl, by omega, by first | rfl | (push_cast; rfl), XN, EN, V2, T14⟩
       ·obtain rfl : j = n8 := by omega
        have dj : decide ((j : Int) < (j : Int)) = false := by simp
        have hlsl : Hid (ls.length = (cutB 44 p3).length) := Lib.hid (by rw [hpe.out, hpl.out]; exact U.out.1)
        have hsrc : Hid (∀ l : List Nat, l ≠ [] → (∀ q ∈ l, q ≤ 1048576) → p3 = srcT l → ls = l) := Lib.hid (src_parts hlsl.out (fun q x hxq n hn e => V.out q x (by
         have := (List.getElem?_eq_some_iff.1 hxq).1
         rw [hpe.out, hpl.out] at this
         exact this) (by rw [← hpe.out]; exact hxq) n hn e))
        replace D := Lib.hid (D.out.stP T8.out (fun k hk => by obtain rfl : k = gx := (by simpa using hk); exact hgx.out))
        clear V T8 hlsl hpl hpe hqs hc8 h8x
        have q2 := (hp_cell (R.out.hp.bw D.out) 1).trans (show _ = some (.slice sW nW cW) from rfl)
        have L := Lib.hid (Sls.new1 (E := EWo) wr 41 [.int .i64 vt, .int .i64 cv, .slice sU j cU] rfl)
        have hbA := (BW.refl wr).alloc (o := .cells [Value.int .i64 vt, .int .i64 cv, .slice sU j cU].toArray 41)
        have hRW : Hid (EWo.R (wr.alloc (.cells [Value.int .i64 vt, .int .i64 cv, .slice sU j cU].toArray 41)) b3 ⟨vt, cv, ls⟩ [.int .i64 vt, .int .i64 cv, .slice sU j cU]) := Lib.hid ⟨sU, j, cU, rfl, (U.out.bw hbA).up hb35.out⟩
        have R7 := Lib.hid (R.out.bw (D.out.trans hbA))
        have T7 := Lib.hid (T.out.trans ((D.out.trans hbA).still [g4]))
        have hz7 := Lib.hid (Nat.le_trans (Nat.le_of_eq hbe.out.symm) T7.out.size)
        obtain ⟨csr, hcr⟩ := hr7.out
        have hr7A := Lib.hid ((D.out.trans hbA).heap hcr)
        have z0A := Lib.hid ((D.out.trans hbA).cell (hc7.out 0 kTrack rfl))
        clear hbA hcr
        obtain ⟨_, _, he, hnWc, hcWm⟩ := R7.out.qw.len
        cases he
        unfold maxLen at hcWm
        go_upto_region 23 with (first | (refine swLd swWi rfl rfl rfl X.out rfl ?_) | (at_builtin; go_must (refine wpList_apEQ slWi rfl _ _ rfl b3 (.slice sW nW cW) nW d.W rfl R7.out.qw _ rfl 1 [⟨vt, cv, ls⟩] _ L.out (EL.single hRW.out) rfl (by omega) hz7.out (R7.out.qw.noU (by decide)) ?_; intro s8 c8 w8 hc8 hm8 E8 T8 B8 G8; unfold maxLen at hm8; have R8 := R7.out.hp.st T8 (fun hm => R7.out.qw.ne R7.out.hp (by decide) _ (by simpa using hm) rfl); have y8 := (hp_cell R8 1).trans (show _ = some (.slice sW nW cW) from rfl); have f8 := hp_frz R8 1; have zN := (still_setR w8 g4 1 (.slice s8 (nW + 1) c8)).cellN (a := ⟨g7, o7 + 0, none⟩) (T8.cellN (a := ⟨g7, o7 + 0, none⟩) z0A.out (fun hm => R7.out.qw.ne hr7A.out (by decide) _ (by simpa using hm) rfl)) (by simpa using h74.out); have RN := Lib.hid (R7.out.wish T8 E8); have TN := Lib.hid ((T7.out.own3 T8 (fun k hk => .inr (by rw [hbe.out]; exact R7.out.qw.ge' k (by simpa using hk)))).own3 (still_setR w8 g4 1 (.slice s8 (nW + 1) c8)) (fun k hk => .inl hk)); clear B8 G8 T8 E8 R8)))
        clear y8 f8
        generalize w8.setCell ⟨g4, 1, none⟩ (.slice s8 (nW + 1) c8) = wN at *
        replace zN : wN.cell? ⟨g7, o7, none⟩ = some (.string (bS kTrack)) := zN
        replace hP : Hid (∀ o, MayO o → S.data.toList = offT o → { d with W := d.W ++ [⟨vt, cv, ls⟩] } = partO o (i + 1)) := Lib.hid (fun o hM e => part_trackS hM (hK.out o hM e) (hP.out o hM e) hvt.out hcod.out hsrc.out)
        clear R T R7 T7 D X L hz7 hRW hK hsrc hcod hvt U q2 hc7 z3 hr7A z0A
        go_wp2_with fail
        go_roundg (m - (i + 1))
        case measure => omega
        case rel => exact ⟨i + 1, _, _, _, _, _, _, _, rfl, by omega, by first | rfl | (push_cast; rfl), by omega, by omega, RN, hP, TN⟩
     by_cases e2 : p2 = [118, 112, 56]
     ·have q1 : ((bS p2).toList == [112, 108, 97, 105, 110]) = false := key_ne e1
      have q2 : ((bS p2).toList == [118, 112, 56]) = true := key_eq e2
      have q3 : ((bS p2).toList == [97, 118, 99]) = false := key_ne (by rw [e2]; decide)
      have hcod : Hid (∀ c' : Int, 0 ≤ c' ∧ c' < 3 → p2 = codT c' → (1 : Int) = c') := Lib.hid (fun c' hc e => codT_inj (by omega) hc (by rw [← e, e2]; rfl))
      have z2' := (still_setR w7 gx 1 (.int .i64 1)).cellN z2 (by simpa using h7x.out)
      clear e1
      try clear e2
      try clear e3
      go_upto_region 17 with (fail)
      obtain ⟨cv, hcv⟩ : ∃ c : Int, 1 = c := ⟨_, rfl⟩
      replace X := Lib.hid (show HpB (w7.setCell ⟨gx, 1, none⟩ (.int .i64 1)) gx (.cells #[.int .i64 vt, .int .i64 1, .slice none 0 0] 41) from hp_set X.out 1 _)
      replace D := Lib.hid (D.out.stP (still_setR w7 gx 1 (.int .i64 1)) (fun k hk => by obtain rfl : k = gx := (by simpa using hk); exact hgx.out))
      clear z2 z2' y1 f1 q1 q2 q3
      replace hcod : Hid (∀ c' : Int, 0 ≤ c' ∧ c' < 3 → p2 = codT c' → cv = c') := Lib.hid (fun c' h1 h2 => by rw [← hcv]; exact hcod.out c' h1 h2)
      generalize w7.setCell _ _ = w7 at *
      rw [hcv] at X
      clear hcv
      have z3' := D.out.cell z3.out
      go_wp2_with fail
      refine Calls.mono (cut_any (bS p3) 44 (by rw [bS_size]; have := hx.out p3 (by simp); omega) w7) ?_
      rintro e w8 ⟨s8, n8, c8, rfl, hn8, Q8, hb⟩
      rw [bS_size] at hn8
      rw [bS_list] at Q8
      have hgx7 := X.out.lt
      replace D := Lib.hid (D.out.trans hb)
      replace X := Lib.hid (X.out.bw hb)
      have hn8' : n8 ≤ 2001 := by have := hx.out p3 (by simp); omega
      have hpl := Q8.1
      rw [List.length_map] at hpl
      have h80 : 0 < n8 := by
       obtain ⟨a, r, e⟩ := cutB_form 44 p3
       rw [← hpl, e]; simp
      obtain ⟨_, _, he, hn8c, hc8m⟩ := Q8.len
      cases he
      unfold maxLen at hc8m
      obtain ⟨g8, o8, rfl, hc8⟩ := str_cells Q8 h80
      have h8x : Hid (g8 ≠ gx) := Lib.hid (by
       have := Q8.ge' g8 (by simp [Value.ownBlock])
       omega)
      clear hb Q8 z3' hn8 hgx7
      generalize hpe : cutB 44 p3 = parts at *
      replace hc8 := Lib.hid hc8
      replace hpl := Lib.hid hpl
      replace hpe := Lib.hid hpe
      have hqs : Hid (∀ x ∈ parts, x.length ≤ 2000) := Lib.hid (fun x hxx => by
       rw [← hpe.out] at hxx
       have := cut_len hxx
       have := hx.out p3 (by simp)
       omega)
      obtain ⟨b5, hb5⟩ : ∃ b, w8.heap.size = b := ⟨_, rfl⟩
      have hb35 : Hid (b3 ≤ b5) := Lib.hid (Nat.le_trans hw5.out (by rw [← hb5]; exact D.out.size))
      have hU : Hid (EQ EU4 38 w8 b5 (.slice none 0 0) 0 []) := Lib.hid (EQ.nil _ _ _ _)
      have hV : Hid (∀ q x, q < 0 → parts[q]? = some x → ∀ n : Nat, n ≤ 1048576 → x = Lib.decDigits n → ([] : List Nat).getD q 0 = n) := Lib.hid (fun q x h => absurd h (Nat.not_lt_zero _))
      replace hb5 := Lib.hid hb5
      dsimp only
      go_upto_region 19 with (fail)
      go_loopg [10] n8 (fun m' v10 wx => ∃ (j : Nat) (ls : List Nat) (sU : Option Addr) (cU : Nat), m' = n8 - j ∧ j ≤ n8 ∧ v10 = .int .i64 (j : Nat) ∧ Hid (HpB wx gx (.cells #[.int .i64 vt, .int .i64 cv, .slice sU j cU] 41)) ∧ Hid (EQ EU4 38 wx b5 (.slice sU j cU) j ls) ∧ Hid (∀ q x, q < j → parts[q]? = some x → ∀ n : Nat, n ≤ 1048576 → x = Lib.decDigits n → ls.getD q 0 = n) ∧ Hid (Still [gx] w8 wx))
      case atStart => exact ⟨0, [], none, 0, by omega, by omega, rfl, X, hU, hV, Lib.hid (Still.refl _ _)⟩
      case round =>
       clear X hU hV
       obtain ⟨j, ls, sU, cU, rfl, hj, rfl, X, U, V, T8⟩ := hrel
       obtain ⟨_, _, he, hjc, hcUm⟩ := U.out.len
       cases he
       unfold maxLen at hcUm
       by_cases hjn : j < n8
       ·have dj : decide ((j : Int) < (n8 : Int)) = true := by simp; omega
        have hjl : j < parts.length := by rw [hpl.out]; exact hjn
        have hjg : parts[j]? = some parts[j] := List.getElem?_eq_getElem hjl
        have hjm : parts[j] ∈ parts := List.getElem_mem hjl
        generalize parts[j] = pj at *
        have zp := T8.out.cellN (a := ⟨g8, o8 + j, none⟩) (hc8.out j pj hjg) (by simpa using h8x.out)
        have c1 := Lib.hid (fun y : World => num_any (bS pj) (by rw [bS_size]; have := hqs.out pj hjm; omega) y)
        have hls := Lib.hid U.out.1
        replace hjg := Lib.hid hjg
        clear hjm hjl
        go_upto_region 21 with (fail)
        have m0 : ∀ y : LaterS [] wr, _ := fun y => y.bw.cell zp
        have m1 : ∀ y : LaterS [] wr, _ := fun y => y.bw.cell ((hp_cell X.out 2).trans (show _ = some (.slice sU j cU) from rfl))
        clear zp
        refine wp_region_gg ((Value.slice sU j cU).ownBlock.toList) [9] [10] (by kernel_rfl) ?_
        refine hoist [] [9] (a1 := ?_) 0 rfl (by kernel_rfl) (.inl ⟨rfl, rfl⟩) rfl rfl rfl (fun x K hK => ?_) ?_
        rotate_left
        ·go_big_quiet_op
         exact hK
        refine hoist [] [9] (a1 := ?_) 1 rfl (by kernel_rfl) (.inl ⟨rfl, rfl⟩) rfl rfl rfl (fun x K hK => ?_) ?_
        rotate_left
        ·go_big_quiet_op
         exact hK
        refine hoist [] [9] (a1 := ?_) 2 rfl (by kernel_rfl) (.inl ⟨rfl, rfl⟩) rfl rfl rfl (fun x K hK => ?_) ?_
        rotate_left
        ·go_big_quiet_op
         exact hK
        refine hoist [] [9] (a1 := ?_) 3 rfl (by kernel_rfl) (.inl ⟨rfl, rfl⟩) rfl rfl rfl (fun x K hK => ?_) ?_
        rotate_left
        ·go_big_quiet_op
         exact hK
        refine hoist [] [9] (a1 := ?_) 4 rfl (by kernel_rfl) (.inl ⟨rfl, rfl⟩) rfl rfl rfl (fun x K hK => ?_) ?_
        rotate_left
        ·go_big_quiet_op
         exact hK
        refine hoist [] [9] (a1 := ?_) 5 rfl (by kernel_rfl) (.inl ⟨rfl, rfl⟩) rfl rfl rfl (fun x K hK => ?_) ?_
        rotate_left
        ·go_big_quiet_op
         exact hK
        refine effect 6 rfl (by kernel_rfl) (by kernel_rfl) rfl (fun x6 K hK => ?_)
        go_simp
        refine Calls.mono (c1.out x6.now) ?_
        rintro e w9 ⟨⟨vj, rfl, hv1, hv2, hvj⟩, hb⟩
        refine hK _ _ (hb.still _) ?_
        rw [bS_list] at hvj
        obtain ⟨xn, hxn⟩ : ∃ n : Nat, vj % 4294967296 = n := ⟨(vj % 4294967296).toNat, by omega⟩
        have hxj : Hid (∀ n : Nat, n ≤ 1048576 → pj = Lib.decDigits n → xn = n) := Lib.hid (fun n hn e => by have := hvj n hn e; omega)
        have BB := Lib.hid (x6.bw.trans hb)
        clear hb hK K m0 m1 hvj c1
        try simp only [Act.put, List.setIfInBounds_toArray, List.set_cons_succ, List.set_cons_zero]
        refine hoist [] [9] (a1 := ?_) 7 rfl (by kernel_rfl) (.inl ⟨rfl, rfl⟩) rfl rfl rfl (fun x K hK => ?_) ?_
        rotate_left
        ·go_big_quiet_op
         exact hK
        refine effect 8 rfl (by kernel_rfl) (by kernel_rfl) rfl (fun x8 K hK => ?_)
        go_simp
        refine hK _ _ (Still.of_below ((Below.refl _ _).alloc (Nat.le_refl _) _)) ?_
        clear hK K
        have L := Lib.hid (Sls.new1 (E := EU4) x8.now 38 (u4V xn) rfl)
        replace BB := Lib.hid (BB.out.trans (x8.bw.alloc (o := .cells #[.int .u32 (xn : Nat)] 38)))
        replace L : Hid (Sls (x8.now.alloc (.cells #[.int .u32 (xn : Nat)] 38)) EU4.size (.slice (some ⟨x8.now.heap.size, 0, none⟩) 1 1) 1 (u4V xn)) := L
        generalize x8.now.alloc _ = w10 at *
        generalize x8.now.heap.size = g10 at *
        try simp only [Act.put, List.setIfInBounds_toArray, List.set_cons_succ, List.set_cons_zero]
        refine effect 9 rfl (by kernel_rfl) (by kernel_rfl) rfl (fun x9 K hK => ?_)
        have B9 := BB.out.trans x9.bw
        have U9 := U.out.bw B9
        have X9 := X.out.bw B9
        have T9 := T8.out.trans (B9.still _)
        refine wp_apEQ slU4 _ _ rfl b5 (.slice sU j cU) j ls rfl U9 _ rfl 1 [xn] (u4V xn) (L.out.bw x9.bw) (EL.single rfl) rfl (by omega) (Nat.le_trans (Nat.le_of_eq hb5.out.symm) T9.size) (fun _ _ => trivial) ?_
        intro s11 c11 w11 hc11 hm11 E11 T11 B11 G11
        unfold maxLen at hm11
        refine hK _ _ T11 ?_
        have X11 := Lib.hid (X9.st T11 (fun hm => U9.ne X9 (by decide) _ (by simpa using hm) rfl))
        have Tn : Hid (Still [gx] w8 w11) := Lib.hid (T9.own3 T11 (fun k hk => .inr (by rw [hb5.out]; exact U9.ge' k (by simpa using hk))))
        have E12 := Lib.hid E11
        clear hK K BB L B9 U9 X9 T9 E11 T11 B11 G11
        try simp only [Act.put, List.setIfInBounds_toArray, List.set_cons_succ, List.set_cons_zero]
        refine tail 10 rfl (by kernel_rfl) rfl (fun xr => ?_)
        simp only [List.drop_succ_cons, List.drop_zero]
        have X12 := X11.out.bw xr.bw
        have y2 := (hp_cell X12 2).trans (show _ = some (.slice sU j cU) from rfl)
        have f2 := hp_frz X12 2
        have E13 := E12.out.bw xr.bw
        have T13 := Tn.out.trans (xr.bw.still _)
        clear X11 E12 Tn
        generalize xr.now = w12 at *
        clear xr
        have hxl := X12.lt
        have V2 : Hid (∀ q x, q < j + 1 → parts[q]? = some x → ∀ n : Nat, n ≤ 1048576 → x = Lib.decDigits n → (ls ++ [xn]).getD q 0 = n) := Lib.hid (fun q x hq hxq n hn e => by
         by_cases hqj : q < j
         ·have := V.out q x hqj hxq n hn e
          rw [← this]
          unfold List.getD
          rw [List.getElem?_append_left (by rw [hls.out]; exact hqj)]
         ·obtain rfl : q = j := by omega
          have h1 : x = pj := Option.some.inj (hxq.symm.trans hjg.out)
          have := hxj.out n hn (by rw [← h1]; exact e)
          unfold List.getD
          rw [List.getElem?_append_right (by rw [hls.out]; exact Nat.le_refl _), hls.out, Nat.sub_self]
          exact this)
        have hgn : Hid (∀ k ∈ (Value.slice s11 (j + 1) c11).ownBlock.toList, k ≠ gx) := Lib.hid (fun k hk => by
         have h1 := E13.ne X12 (by decide) k (by simpa using hk)
         exact h1)
        have XN : Hid (HpB (w12.setCell ⟨gx, 2, none⟩ (.slice s11 (j + 1) c11)) gx (.cells #[.int .i64 vt, .int .i64 cv, .slice s11 (j + 1) c11] 41)) := Lib.hid (hp_set X12 2 _)
        have EN : Hid (EQ EU4 38 (w12.setCell ⟨gx, 2, none⟩ (.slice s11 (j + 1) c11)) b5 (.slice s11 (j + 1) c11) (j + 1) (ls ++ [xn])) := Lib.hid (E13.still (still_setR w12 gx 2 _) (fun _ _ => trivial) (fun k hk hm => hgn.out k (by simpa using hk) (by simpa using hm)))
        have T14 : Hid (Still [gx] w8 (w12.setCell ⟨gx, 2, none⟩ (.slice s11 (j + 1) c11))) := Lib.hid (T13.own3 (still_setR w12 gx 2 _) (fun k hk => .inl hk))
        clear V hxj hgn X12 E13 T13 hls hjg U X T8 hxl
        go_wp2_with fail
        go_roundg (n8 - (j + 1))
        case measure => omega
        case rel => exact ⟨j + 1, ls ++ [xn], s11, c11, rfl, by omega, by first | rfl | (push_cast; rfl), XN, EN, V2, T14⟩
       ·obtain rfl : j = n8 := by omega
        have dj : decide ((j : Int) < (j : Int)) = false := by simp
        have hlsl : Hid (ls.length = (cutB 44 p3).length) := Lib.hid (by rw [hpe.out, hpl.out]; exact U.out.1)
        have hsrc : Hid (∀ l : List Nat, l ≠ [] → (∀ q ∈ l, q ≤ 1048576) → p3 = srcT l → ls = l) := Lib.hid (src_parts hlsl.out (fun q x hxq n hn e => V.out q x (by
         have := (List.getElem?_eq_some_iff.1 hxq).1
         rw [hpe.out, hpl.out] at this
         exact this) (by rw [← hpe.out]; exact hxq) n hn e))
        replace D := Lib.hid (D.out.stP T8.out (fun k hk => by obtain rfl : k = gx := (by simpa using hk); exact hgx.out))
        clear V T8 hlsl hpl hpe hqs hc8 h8x
        have q2 := (hp_cell (R.out.hp.bw D.out) 1).trans (show _ = some (.slice sW nW cW) from rfl)
        have L := Lib.hid (Sls.new1 (E := EWo) wr 41 [.int .i64 vt, .int .i64 cv, .slice sU j cU] rfl)
        have hbA := (BW.refl wr).alloc (o := .cells [Value.int .i64 vt, .int .i64 cv, .slice sU j cU].toArray 41)
        have hRW : Hid (EWo.R (wr.alloc (.cells [Value.int .i64 vt, .int .i64 cv, .slice sU j cU].toArray 41)) b3 ⟨vt, cv, ls⟩ [.int .i64 vt, .int .i64 cv, .slice sU j cU]) := Lib.hid ⟨sU, j, cU, rfl, (U.out.bw hbA).up hb35.out⟩
        have R7 := Lib.hid (R.out.bw (D.out.trans hbA))
        have T7 := Lib.hid (T.out.trans ((D.out.trans hbA).still [g4]))
        have hz7 := Lib.hid (Nat.le_trans (Nat.le_of_eq hbe.out.symm) T7.out.size)
        obtain ⟨csr, hcr⟩ := hr7.out
        have hr7A := Lib.hid ((D.out.trans hbA).heap hcr)
        have z0A := Lib.hid ((D.out.trans hbA).cell (hc7.out 0 kTrack rfl))
        clear hbA hcr
        obtain ⟨_, _, he, hnWc, hcWm⟩ := R7.out.qw.len
        cases he
        unfold maxLen at hcWm
        go_upto_region 23 with (first | (refine swLd swWi rfl rfl rfl X.out rfl ?_) | (at_builtin; go_must (refine wpList_apEQ slWi rfl _ _ rfl b3 (.slice sW nW cW) nW d.W rfl R7.out.qw _ rfl 1 [⟨vt, cv, ls⟩] _ L.out (EL.single hRW.out) rfl (by omega) hz7.out (R7.out.qw.noU (by decide)) ?_; intro s8 c8 w8 hc8 hm8 E8 T8 B8 G8; unfold maxLen at hm8; have R8 := R7.out.hp.st T8 (fun hm => R7.out.qw.ne R7.out.hp (by decide) _ (by simpa using hm) rfl); have y8 := (hp_cell R8 1).trans (show _ = some (.slice sW nW cW) from rfl); have f8 := hp_frz R8 1; have zN := (still_setR w8 g4 1 (.slice s8 (nW + 1) c8)).cellN (a := ⟨g7, o7 + 0, none⟩) (T8.cellN (a := ⟨g7, o7 + 0, none⟩) z0A.out (fun hm => R7.out.qw.ne hr7A.out (by decide) _ (by simpa using hm) rfl)) (by simpa using h74.out); have RN := Lib.hid (R7.out.wish T8 E8); have TN := Lib.hid ((T7.out.own3 T8 (fun k hk => .inr (by rw [hbe.out]; exact R7.out.qw.ge' k (by simpa using hk)))).own3 (still_setR w8 g4 1 (.slice s8 (nW + 1) c8)) (fun k hk => .inl hk)); clear B8 G8 T8 E8 R8)))
        clear y8 f8
        generalize w8.setCell ⟨g4, 1, none⟩ (.slice s8 (nW + 1) c8) = wN at *
        replace zN : wN.cell? ⟨g7, o7, none⟩ = some (.string (bS kTrack)) := zN
        replace hP : Hid (∀ o, MayO o → S.data.toList = offT o → { d with W := d.W ++ [⟨vt, cv, ls⟩] } = partO o (i + 1)) := Lib.hid (fun o hM e => part_trackS hM (hK.out o hM e) (hP.out o hM e) hvt.out hcod.out hsrc.out)
        clear R T R7 T7 D X L hz7 hRW hK hsrc hcod hvt U q2 hc7 z3 hr7A z0A
        go_wp2_with fail
        go_roundg (m - (i + 1))
        case measure => omega
        case rel => exact ⟨i + 1, _, _, _, _, _, _, _, rfl, by omega, by first | rfl | (push_cast; rfl), by omega, by omega, RN, hP, TN⟩
     by_cases e3 : p2 = [97, 118, 99]
     ·have q1 : ((bS p2).toList == [112, 108, 97, 105, 110]) = false := key_ne e1
      have q2 : ((bS p2).toList == [118, 112, 56]) = false := key_ne e2
      have q3 : ((bS p2).toList == [97, 118, 99]) = true := key_eq e3
      have hcod : Hid (∀ c' : Int, 0 ≤ c' ∧ c' < 3 → p2 = codT c' → (2 : Int) = c') := Lib.hid (fun c' hc e => codT_inj (by omega) hc (by rw [← e, e3]; rfl))
      have z2' := (still_setR w7 gx 1 (.int .i64 2)).cellN z2 (by simpa using h7x.out)
      clear e1
      try clear e2
      try clear e3
      go_upto_region 17 with (fail)
      obtain ⟨cv, hcv⟩ : ∃ c : Int, 2 = c := ⟨_, rfl⟩
      replace X := Lib.hid (show HpB (w7.setCell ⟨gx, 1, none⟩ (.int .i64 2)) gx (.cells #[.int .i64 vt, .int .i64 2, .slice none 0 0] 41) from hp_set X.out 1 _)
      replace D := Lib.hid (D.out.stP (still_setR w7 gx 1 (.int .i64 2)) (fun k hk => by obtain rfl : k = gx := (by simpa using hk); exact hgx.out))
      clear z2 z2' y1 f1 q1 q2 q3
      replace hcod : Hid (∀ c' : Int, 0 ≤ c' ∧ c' < 3 → p2 = codT c' → cv = c') := Lib.hid (fun c' h1 h2 => by rw [← hcv]; exact hcod.out c' h1 h2)
      generalize w7.setCell _ _ = w7 at *
      rw [hcv] at X
      clear hcv
      have z3' := D.out.cell z3.out
      go_wp2_with fail
      refine Calls.mono (cut_any (bS p3) 44 (by rw [bS_size]; have := hx.out p3 (by simp); omega) w7) ?_
      rintro e w8 ⟨s8, n8, c8, rfl, hn8, Q8, hb⟩
      rw [bS_size] at hn8
      rw [bS_list] at Q8
      have hgx7 := X.out.lt
      replace D := Lib.hid (D.out.trans hb)
      replace X := Lib.hid (X.out.bw hb)
      have hn8' : n8 ≤ 2001 := by have := hx.out p3 (by simp); omega
      have hpl := Q8.1
      rw [List.length_map] at hpl
      have h80 : 0 < n8 := by
       obtain ⟨a, r, e⟩ := cutB_form 44 p3
       rw [← hpl, e]; simp
      obtain ⟨_, _, he, hn8c, hc8m⟩ := Q8.len
      cases he
      unfold maxLen at hc8m
      obtain ⟨g8, o8, rfl, hc8⟩ := str_cells Q8 h80
      have h8x : Hid (g8 ≠ gx) := Lib.hid (by
       have := Q8.ge' g8 (by simp [Value.ownBlock])
       omega)
      clear hb Q8 z3' hn8 hgx7
      generalize hpe : cutB 44 p3 = parts at *
      replace hc8 := Lib.hid hc8
      replace hpl := Lib.hid hpl
      replace hpe := Lib.hid hpe
      have hqs : Hid (∀ x ∈ parts, x.length ≤ 2000) := Lib.hid (fun x hxx => by
       rw [← hpe.out] at hxx
       have := cut_len hxx
       have := hx.out p3 (by simp)
       omega)
      obtain ⟨b5, hb5⟩ : ∃ b, w8.heap.size = b := ⟨_, rfl⟩
      have hb35 : Hid (b3 ≤ b5) := Lib.hid (Nat.le_trans hw5.out (by rw [← hb5]; exact D.out.size))
      have hU : Hid (EQ EU4 38 w8 b5 (.slice none 0 0) 0 []) := Lib.hid (EQ.nil _ _ _ _)
      have hV : Hid (∀ q x, q < 0 → parts[q]? = some x → ∀ n : Nat, n ≤ 1048576 → x = Lib.decDigits n → ([] : List Nat).getD q 0 = n) := Lib.hid (fun q x h => absurd h (Nat.not_lt_zero _))
      replace hb5 := Lib.hid hb5
      dsimp only
      go_upto_region 19 with (fail)
      go_loopg [10] n8 (fun m' v10 wx => ∃ (j : Nat) (ls : List Nat) (sU : Option Addr) (cU : Nat), m' = n8 - j ∧ j ≤ n8 ∧ v10 = .int .i64 (j : Nat) ∧ Hid (HpB wx gx (.cells #[.int .i64 vt, .int .i64 cv, .slice sU j cU] 41)) ∧ Hid (EQ EU4 38 wx b5 (.slice sU j cU) j ls) ∧ Hid (∀ q x, q < j → parts[q]? = some x → ∀ n : Nat, n ≤ 1048576 → x = Lib.decDigits n → ls.getD q 0 = n) ∧ Hid (Still [gx] w8 wx))
      case atStart => exact ⟨0, [], none, 0, by omega, by omega, rfl, X, hU, hV, Lib.hid (Still.refl _ _)⟩
      case round =>
       clear X hU hV
       obtain ⟨j, ls, sU, cU, rfl, hj, rfl, X, U, V, T8⟩ := hrel
       obtain ⟨_, _, he, hjc, hcUm⟩ := U.out.len
       cases he
       unfold maxLen at hcUm
       by_cases hjn : j < n8
       ·have dj : decide ((j : Int) < (n8 : Int)) = true := by simp; omega
        have hjl : j < parts.length := by rw [hpl.out]; exact hjn
        have hjg : parts[j]? = some parts[j] := List.getElem?_eq_getElem hjl
        have hjm : parts[j] ∈ parts := List.getElem_mem hjl
        generalize parts[j] = pj at *
        have zp := T8.out.cellN (a := ⟨g8, o8 + j, none⟩) (hc8.out j pj hjg) (by simpa using h8x.out)
        have c1 := Lib.hid (fun y : World => num_any (bS pj) (by rw [bS_size]; have := hqs.out pj hjm; omega) y)
        have hls := Lib.hid U.out.1
        replace hjg := Lib.hid hjg
        clear hjm hjl
        go_upto_region 21 with (fail)
        have m0 : ∀ y : LaterS [] wr, _ := fun y => y.bw.cell zp
        have m1 : ∀ y : LaterS [] wr, _ := fun y => y.bw.cell ((hp_cell X.out 2).trans (show _ = some (.slice sU j cU) from rfl))
        clear zp
        refine wp_region_gg ((Value.slice sU j cU).ownBlock.toList) [9] [10] (by kernel_rfl) ?_
        refine hoist [] [9] (a1 := ?_) 0 rfl (by kernel_rfl) (.inl ⟨rfl, rfl⟩) rfl rfl rfl (fun x K hK => ?_) ?_
        rotate_left
        ·go_big_quiet_op
         exact hK
        refine hoist [] [9] (a1 := ?_) 1 rfl (by kernel_rfl) (.inl ⟨rfl, rfl⟩) rfl rfl rfl (fun x K hK => ?_) ?_
        rotate_left
        ·go_big_quiet_op
         exact hK
        refine hoist [] [9] (a1 := ?_) 2 rfl (by kernel_rfl) (.inl ⟨rfl, rfl⟩) rfl rfl rfl (fun x K hK => ?_) ?_
        rotate_left
        ·go_big_quiet_op
         exact hK
        refine hoist [] [9] (a1 := ?_) 3 rfl (by kernel_rfl) (.inl ⟨rfl, rfl⟩) rfl rfl rfl (fun x K hK => ?_) ?_
        rotate_left
        ·go_big_quiet_op
         exact hK
        refine hoist [] [9] (a1 := ?_) 4 rfl (by kernel_rfl) (.inl ⟨rfl, rfl⟩) rfl rfl rfl (fun x K hK => ?_) ?_
        rotate_left
        ·go_big_quiet_op
         exact hK
        refine hoist [] [9] (a1 := ?_) 5 rfl (by kernel_rfl) (.inl ⟨rfl, rfl⟩) rfl rfl rfl (fun x K hK => ?_) ?_
        rotate_left
        ·go_big_quiet_op
         exact hK
        refine effect 6 rfl (by kernel_rfl) (by kernel_rfl) rfl (fun x6 K hK => ?_)
        go_simp
        refine Calls.mono (c1.out x6.now) ?_
        rintro e w9 ⟨⟨vj, rfl, hv1, hv2, hvj⟩, hb⟩
        refine hK _ _ (hb.still _) ?_
        rw [bS_list] at hvj
        obtain ⟨xn, hxn⟩ : ∃ n : Nat, vj % 4294967296 = n := ⟨(vj % 4294967296).toNat, by omega⟩
        have hxj : Hid (∀ n : Nat, n ≤ 1048576 → pj = Lib.decDigits n → xn = n) := Lib.hid (fun n hn e => by have := hvj n hn e; omega)
        have BB := Lib.hid (x6.bw.trans hb)
        clear hb hK K m0 m1 hvj c1
        try simp only [Act.put, List.setIfInBounds_toArray, List.set_cons_succ, List.set_cons_zero]
        refine hoist [] [9] (a1 := ?_) 7 rfl (by kernel_rfl) (.inl ⟨rfl, rfl⟩) rfl rfl rfl (fun x K hK => ?_) ?_
        rotate_left
        ·go_big_quiet_op
         exact hK
        refine effect 8 rfl (by kernel_rfl) (by kernel_rfl) rfl (fun x8 K hK => ?_)
        go_simp
        refine hK _ _ (Still.of_below ((Below.refl _ _).alloc (Nat.le_refl _) _)) ?_
        clear hK K
        have L := Lib.hid (Sls.new1 (E := EU4) x8.now 38 (u4V xn) rfl)
        replace BB := Lib.hid (BB.out.trans (x8.bw.alloc (o := .cells #[.int .u32 (xn : Nat)] 38)))
        replace L : Hid (Sls (x8.now.alloc (.cells #[.int .u32 (xn : Nat)] 38)) EU4.size (.slice (some ⟨x8.now.heap.size, 0, none⟩) 1 1) 1 (u4V xn)) := L
        generalize x8.now.alloc _ = w10 at *
        generalize x8.now.heap.size = g10 at *
        try simp only [Act.put, List.setIfInBounds_toArray, List.set_cons_succ, List.set_cons_zero]
        refine effect 9 rfl (by kernel_rfl) (by kernel_rfl) rfl (fun x9 K hK => ?_)
        have B9 := BB.out.trans x9.bw
        have U9 := U.out.bw B9
        have X9 := X.out.bw B9
        have T9 := T8.out.trans (B9.still _)
        refine wp_apEQ slU4 _ _ rfl b5 (.slice sU j cU) j ls rfl U9 _ rfl 1 [xn] (u4V xn) (L.out.bw x9.bw) (EL.single rfl) rfl (by omega) (Nat.le_trans (Nat.le_of_eq hb5.out.symm) T9.size) (fun _ _ => trivial) ?_
        intro s11 c11 w11 hc11 hm11 E11 T11 B11 G11
        unfold maxLen at hm11
        refine hK _ _ T11 ?_
        have X11 := Lib.hid (X9.st T11 (fun hm => U9.ne X9 (by decide) _ (by simpa using hm) rfl))
        have Tn : Hid (Still [gx] w8 w11) := Lib.hid (T9.own3 T11 (fun k hk => .inr (by rw [hb5.out]; exact U9.ge' k (by simpa using hk))))
        have E12 := Lib.hid E11
        clear hK K BB L B9 U9 X9 T9 E11 T11 B11 G11
        try simp only [Act.put, List.setIfInBounds_toArray, List.set_cons_succ, List.set_cons_zero]
        refine tail 10 rfl (by kernel_rfl) rfl (fun xr => ?_)
        simp only [List.drop_succ_cons, List.drop_zero]
        have X12 := X11.out.bw xr.bw
        have y2 := (hp_cell X12 2).trans (show _ = some (.slice sU j cU) from rfl)
        have f2 := hp_frz X12 2
        have E13 := E12.out.bw xr.bw
        have T13 := Tn.out.trans (xr.bw.still _)
        clear X11 E12 Tn
        generalize xr.now = w12 at *
        clear xr
        have hxl := X12.lt
        have V2 : Hid (∀ q x, q < j + 1 → parts[q]? = some x → ∀ n : Nat, n ≤ 1048576 → x = Lib.decDigits n → (ls ++ [xn]).getD q 0 = n) := Lib.hid (fun q x hq hxq n hn e => by
         by_cases hqj : q < j
         ·have := V.out q x hqj hxq n hn e
          rw [← this]
          unfold List.getD
          rw [List.getElem?_append_left (by rw [hls.out]; exact hqj)]
         ·obtain rfl : q = j := by omega
          have h1 : x = pj := Option.some.inj (hxq.symm.trans hjg.out)
          have := hxj.out n hn (by rw [← h1]; exact e)
          unfold List.getD
          rw [List.getElem?_append_right (by rw [hls.out]; exact Nat.le_refl _), hls.out, Nat.sub_self]
          exact this)
        have hgn : Hid (∀ k ∈ (Value.slice s11 (j + 1) c11).ownBlock.toList, k ≠ gx) := Lib.hid (fun k hk => by
         have h1 := E13.ne X12 (by decide) k (by simpa using hk)
         exact h1)
        have XN : Hid (HpB (w12.setCell ⟨gx, 2, none⟩ (.slice s11 (j + 1) c11)) gx (.cells #[.int .i64 vt, .int .i64 cv, .slice s11 (j + 1) c11] 41)) := Lib.hid (hp_set X12 2 _)
        have EN : Hid (EQ EU4 38 (w12.setCell ⟨gx, 2, none⟩ (.slice s11 (j + 1) c11)) b5 (.slice s11 (j + 1) c11) (j + 1) (ls ++ [xn])) := Lib.hid (E13.still (still_setR w12 gx 2 _) (fun _ _ => trivial) (fun k hk hm => hgn.out k (by simpa using hk) (by simpa using hm)))
        have T14 : Hid (Still [gx] w8 (w12.setCell ⟨gx, 2, none⟩ (.slice s11 (j + 1) c11))) := Lib.hid (T13.own3 (still_setR w12 gx 2 _) (fun k hk => .inl hk))
        clear V hxj hgn X12 E13 T13 hls hjg U X T8 hxl
        go_wp2_with fail
        go_roundg (n8 - (j + 1))
        case measure => omega
        case rel => exact ⟨j + 1, ls ++ [xn], s11, c11, rfl, by omega, by first | rfl | (push_cast; rfl), XN, EN, V2, T14⟩
       ·obtain rfl : j = n8 := by omega
        have dj : decide ((j : Int) < (j : Int)) = false := by simp
        have hlsl : Hid (ls.length = (cutB 44 p3).length) := Lib.hid (by rw [hpe.out, hpl.out]; exact U.out.1)
        have hsrc : Hid (∀ l : List Nat, l ≠ [] → (∀ q ∈ l, q ≤ 1048576) → p3 = srcT l → ls = l) := Lib.hid (src_parts hlsl.out (fun q x hxq n hn e => V.out q x (by
         have := (List.getElem?_eq_some_iff.1 hxq).1
         rw [hpe.out, hpl.out] at this
         exact this) (by rw [← hpe.out]; exact hxq) n hn e))
        replace D := Lib.hid (D.out.stP T8.out (fun k hk => by obtain rfl : k = gx := (by simpa using hk); exact hgx.out))
        clear V T8 hlsl hpl hpe hqs hc8 h8x
        have q2 := (hp_cell (R.out.hp.bw D.out) 1).trans (show _ = some (.slice sW nW cW) from rfl)
        have L := Lib.hid (Sls.new1 (E := EWo) wr 41 [.int .i64 vt, .int .i64 cv, .slice sU j cU] rfl)
        have hbA := (BW.refl wr).alloc (o := .cells [Value.int .i64 vt, .int .i64 cv, .slice sU j cU].toArray 41)
        have hRW : Hid (EWo.R (wr.alloc (.cells [Value.int .i64 vt, .int .i64 cv, .slice sU j cU].toArray 41)) b3 ⟨vt, cv, ls⟩ [.int .i64 vt, .int .i64 cv, .slice sU j cU]) := Lib.hid ⟨sU, j, cU, rfl, (U.out.bw hbA).up hb35.out⟩
        have R7 := Lib.hid (R.out.bw (D.out.trans hbA))
        have T7 := Lib.hid (T.out.trans ((D.out.trans hbA).still [g4]))
        have hz7 := Lib.hid (Nat.le_trans (Nat.le_of_eq hbe.out.symm) T7.out.size)
        obtain ⟨csr, hcr⟩ := hr7.out
        have hr7A := Lib.hid ((D.out.trans hbA).heap hcr)
        have z0A := Lib.hid ((D.out.trans hbA).cell (hc7.out 0 kTrack rfl))
        clear hbA hcr
        obtain ⟨_, _, he, hnWc, hcWm⟩ := R7.out.qw.len
        cases he
        unfold maxLen at hcWm
        go_upto_region 23 with (first | (refine swLd swWi rfl rfl rfl X.out rfl ?_) | (at_builtin; go_must (refine wpList_apEQ slWi rfl _ _ rfl b3 (.slice sW nW cW) nW d.W rfl R7.out.qw _ rfl 1 [⟨vt, cv, ls⟩] _ L.out (EL.single hRW.out) rfl (by omega) hz7.out (R7.out.qw.noU (by decide)) ?_; intro s8 c8 w8 hc8 hm8 E8 T8 B8 G8; unfold maxLen at hm8; have R8 := R7.out.hp.st T8 (fun hm => R7.out.qw.ne R7.out.hp (by decide) _ (by simpa using hm) rfl); have y8 := (hp_cell R8 1).trans (show _ = some (.slice sW nW cW) from rfl); have f8 := hp_frz R8 1; have zN := (still_setR w8 g4 1 (.slice s8 (nW + 1) c8)).cellN (a := ⟨g7, o7 + 0, none⟩) (T8.cellN (a := ⟨g7, o7 + 0, none⟩) z0A.out (fun hm => R7.out.qw.ne hr7A.out (by decide) _ (by simpa using hm) rfl)) (by simpa using h74.out); have RN := Lib.hid (R7.out.wish T8 E8); have TN := Lib.hid ((T7.out.own3 T8 (fun k hk => .inr (by rw [hbe.out]; exact R7.out.qw.ge' k (by simpa using hk)))).own3 (still_setR w8 g4 1 (.slice s8 (nW + 1) c8)) (fun k hk => .inl hk)); clear B8 G8 T8 E8 R8)))
        clear y8 f8
        generalize w8.setCell ⟨g4, 1, none⟩ (.slice s8 (nW + 1) c8) = wN at *
        replace zN : wN.cell? ⟨g7, o7, none⟩ = some (.string (bS kTrack)) := zN
        replace hP : Hid (∀ o, MayO o → S.data.toList = offT o → { d with W := d.W ++ [⟨vt, cv, ls⟩] } = partO o (i + 1)) := Lib.hid (fun o hM e => part_trackS hM (hK.out o hM e) (hP.out o hM e) hvt.out hcod.out hsrc.out)
        clear R T R7 T7 D X L hz7 hRW hK hsrc hcod hvt U q2 hc7 z3 hr7A z0A
        go_wp2_with fail
        go_roundg (m - (i + 1))
        case measure => omega
        case rel => exact ⟨i + 1, _, _, _, _, _, _, _, rfl, by omega, by first | rfl | (push_cast; rfl), by omega, by omega, RN, hP, TN⟩
     ·have q1 : ((bS p2).toList == [112, 108, 97, 105, 110]) = false := key_ne e1
      have q2 : ((bS p2).toList == [118, 112, 56]) = false := key_ne e2
      have q3 : ((bS p2).toList == [97, 118, 99]) = false := key_ne e3
      obtain ⟨cv, hcv⟩ : ∃ c : Int, c = -1 := ⟨_, rfl⟩
      have hcod : Hid (∀ c' : Int, 0 ≤ c' ∧ c' < 3 → p2 = codT c' → cv = c') := Lib.hid (fun c' hc e => by
       have : c' = 0 ∨ c' = 1 ∨ c' = 2 := by omega
       rcases this with rfl | rfl | rfl
       ·exact absurd e e1
       ·exact absurd e e2
       ·exact absurd e e3)
      rw [← hcv] at X
      clear e1 e2 e3 hcv
      go_upto_region 17 with (fail)
      clear z2 y1 f1 q1 q2 q3
      have z3' := D.out.cell z3.out
      go_wp2_with fail
      refine Calls.mono (cut_any (bS p3) 44 (by rw [bS_size]; have := hx.out p3 (by simp); omega) w7) ?_
      rintro e w8 ⟨s8, n8, c8, rfl, hn8, Q8, hb⟩
      rw [bS_size] at hn8
      rw [bS_list] at Q8
      have hgx7 := X.out.lt
      replace D := Lib.hid (D.out.trans hb)
      replace X := Lib.hid (X.out.bw hb)
      have hn8' : n8 ≤ 2001 := by have := hx.out p3 (by simp); omega
      have hpl := Q8.1
      rw [List.length_map] at hpl
      have h80 : 0 < n8 := by
       obtain ⟨a, r, e⟩ := cutB_form 44 p3
       rw [← hpl, e]; simp
      obtain ⟨_, _, he, hn8c, hc8m⟩ := Q8.len
      cases he
      unfold maxLen at hc8m
      obtain ⟨g8, o8, rfl, hc8⟩ := str_cells Q8 h80
      have h8x : Hid (g8 ≠ gx) := Lib.hid (by
       have := Q8.ge' g8 (by simp [Value.ownBlock])
       omega)
      clear hb Q8 z3' hn8 hgx7
      generalize hpe : cutB 44 p3 = parts at *
      replace hc8 := Lib.hid hc8
      replace hpl := Lib.hid hpl
      replace hpe := Lib.hid hpe
      have hqs : Hid (∀ x ∈ parts, x.length ≤ 2000) := Lib.hid (fun x hxx => by
       rw [← hpe.out] at hxx
       have := cut_len hxx
       have := hx.out p3 (by simp)
       omega)
      obtain ⟨b5, hb5⟩ : ∃ b, w8.heap.size = b := ⟨_, rfl⟩
      have hb35 : Hid (b3 ≤ b5) := Lib.hid (Nat.le_trans hw5.out (by rw [← hb5]; exact D.out.size))
      have hU : Hid (EQ EU4 38 w8 b5 (.slice none 0 0) 0 []) := Lib.hid (EQ.nil _ _ _ _)
      have hV : Hid (∀ q x, q < 0 → parts[q]? = some x → ∀ n : Nat, n ≤ 1048576 → x = Lib.decDigits n → ([] : List Nat).getD q 0 = n) := Lib.hid (fun q x h => absurd h (Nat.not_lt_zero _))
      replace hb5 := Lib.hid hb5
      dsimp only
      go_upto_region 19 with (fail)
      go_loopg [10] n8 (fun m' v10 wx => ∃ (j : Nat) (ls : List Nat) (sU : Option Addr) (cU : Nat), m' = n8 - j ∧ j ≤ n8 ∧ v10 = .int .i64 (j : Nat) ∧ Hid (HpB wx gx (.cells #[.int .i64 vt, .int .i64 cv, .slice sU j cU] 41)) ∧ Hid (EQ EU4 38 wx b5 (.slice sU j cU) j ls) ∧ Hid (∀ q x, q < j → parts[q]? = some x → ∀ n : Nat, n ≤ 1048576 → x = Lib.decDigits n → ls.getD q 0 = n) ∧ Hid (Still [gx] w8 wx))
      case atStart => exact ⟨0, [], none, 0, by omega, by omega, rfl, X, hU, hV, Lib.hid (Still.refl _ _)⟩
      case round =>
       clear X hU hV
       obtain ⟨j, ls, sU, cU, rfl, hj, rfl, X, U, V, T8⟩ := hrel
       obtain ⟨_, _, he, hjc, hcUm⟩ := U.out.len
       cases he
       unfold maxLen at hcUm
       by_cases hjn : j < n8
       ·have dj : decide ((j : Int) < (n8 : Int)) = true := by simp; omega
        have hjl : j < parts.length := by rw [hpl.out]; exact hjn
        have hjg : parts[j]? = some parts[j] := List.getElem?_eq_getElem hjl
        have hjm : parts[j] ∈ parts := List.getElem_mem hjl
        generalize parts[j] = pj at *
        have zp := T8.out.cellN (a := ⟨g8, o8 + j, none⟩) (hc8.out j pj hjg) (by simpa using h8x.out)
        have c1 := Lib.hid (fun y : World => num_any (bS pj) (by rw [bS_size]; have := hqs.out pj hjm; omega) y)
        have hls := Lib.hid U.out.1
        replace hjg := Lib.hid hjg
        clear hjm hjl
        go_upto_region 21 with (fail)
        have m0 : ∀ y : LaterS [] wr, _ := fun y => y.bw.cell zp
        have m1 : ∀ y : LaterS [] wr, _ := fun y => y.bw.cell ((hp_cell X.out 2).trans (show _ = some (.slice sU j cU) from rfl))
        clear zp
        refine wp_region_gg ((Value.slice sU j cU).ownBlock.toList) [9] [10] (by kernel_rfl) ?_
        refine hoist [] [9] (a1 := ?_) 0 rfl (by kernel_rfl) (.inl ⟨rfl, rfl⟩) rfl rfl rfl (fun x K hK => ?_) ?_
        rotate_left
        ·go_big_quiet_op
         exact hK
        refine hoist [] [9] (a1 := ?_) 1 rfl (by kernel_rfl) (.inl ⟨rfl, rfl⟩) rfl rfl rfl (fun x K hK => ?_) ?_
        rotate_left
        ·go_big_quiet_op
         exact hK
        refine hoist [] [9] (a1 := ?_) 2 rfl (by kernel_rfl) (.inl ⟨rfl, rfl⟩) rfl rfl rfl (fun x K hK => ?_) ?_
        rotate_left
        ·go_big_quiet_op
         exact hK
        refine hoist [] [9] (a1 := ?_) 3 rfl (by kernel_rfl) (.inl ⟨rfl, rfl⟩) rfl rfl rfl (fun x K hK => ?_) ?_
        rotate_left
        ·go_big_quiet_op
         exact hK
        refine hoist [] [9] (a1 := ?_) 4 rfl (by kernel_rfl) (.inl ⟨rfl, rfl⟩) rfl rfl rfl (fun x K hK => ?_) ?_
        rotate_left
        ·go_big_quiet_op
         exact hK
        refine hoist [] [9] (a1 := ?_) 5 rfl (by kernel_rfl) (.inl ⟨rfl, rfl⟩) rfl rfl rfl (fun x K hK => ?_) ?_
        rotate_left
        ·go_big_quiet_op
         exact hK
        refine effect 6 rfl (by kernel_rfl) (by kernel_rfl) rfl (fun x6 K hK => ?_)
        go_simp
        refine Calls.mono (c1.out x6.now) ?_
        rintro e w9 ⟨⟨vj, rfl, hv1, hv2, hvj⟩, hb⟩
        refine hK _ _ (hb.still _) ?_
        rw [bS_list] at hvj
        obtain ⟨xn, hxn⟩ : ∃ n : Nat, vj % 4294967296 = n := ⟨(vj % 4294967296).toNat, by omega⟩
        have hxj : Hid (∀ n : Nat, n ≤ 1048576 → pj = Lib.decDigits n → xn = n) := Lib.hid (fun n hn e => by have := hvj n hn e; omega)
        have BB := Lib.hid (x6.bw.trans hb)
        clear hb hK K m0 m1 hvj c1
        try simp only [Act.put, List.setIfInBounds_toArray, List.set_cons_succ, List.set_cons_zero]
        refine hoist [] [9] (a1 := ?_) 7 rfl (by kernel_rfl) (.inl ⟨rfl, rfl⟩) rfl rfl rfl (fun x K hK => ?_) ?_
        rotate_left
        ·go_big_quiet_op
         exact hK
        refine effect 8 rfl (by kernel_rfl) (by kernel_rfl) rfl (fun x8 K hK => ?_)
        go_simp
        refine hK _ _ (Still.of_below ((Below.refl _ _).alloc (Nat.le_refl _) _)) ?_
        clear hK K
        have L := Lib.hid (Sls.new1 (E := EU4) x8.now 38 (u4V xn) rfl)
        replace BB := Lib.hid (BB.out.trans (x8.bw.alloc (o := .cells #[.int .u32 (xn : Nat)] 38)))
        replace L : Hid (Sls (x8.now.alloc (.cells #[.int .u32 (xn : Nat)] 38)) EU4.size (.slice (some ⟨x8.now.heap.size, 0, none⟩) 1 1) 1 (u4V xn)) := L
        generalize x8.now.alloc _ = w10 at *
        generalize x8.now.heap.size = g10 at *
        try simp only [Act.put, List.setIfInBounds_toArray, List.set_cons_succ, List.set_cons_zero]
        refine effect 9 rfl (by kernel_rfl) (by kernel_rfl) rfl (fun x9 K hK => ?_)
        have B9 := BB.out.trans x9.bw
        have U9 := U.out.bw B9
        have X9 := X.out.bw B9
        have T9 := T8.out.trans (B9.still _)
        refine wp_apEQ slU4 _ _ rfl b5 (.slice sU j cU) j ls rfl U9 _ rfl 1 [xn] (u4V xn) (L.out.bw x9.bw) (EL.single rfl) rfl (by omega) (Nat.le_trans (Nat.le_of_eq hb5.out.symm) T9.size) (fun _ _ => trivial) ?_
        intro s11 c11 w11 hc11 hm11 E11 T11 B11 G11
        unfold maxLen at hm11
        refine hK _ _ T11 ?_
        have X11 := Lib.hid (X9.st T11 (fun hm => U9.ne X9 (by decide) _ (by simpa using hm) rfl))
        have Tn : Hid (Still [gx] w8 w11) := Lib.hid (T9.own3 T11 (fun k hk => .inr (by rw [hb5.out]; exact U9.ge' k (by simpa using hk))))
        have E12 := Lib.hid E11
        clear hK K BB L B9 U9 X9 T9 E11 T11 B11 G11
        try simp only [Act.put, List.setIfInBounds_toArray, List.set_cons_succ, List.set_cons_zero]
        refine tail 10 rfl (by kernel_rfl) rfl (fun xr => ?_)
        simp only [List.drop_succ_cons, List.drop_zero]
        have X12 := X11.out.bw xr.bw
        have y2 := (hp_cell X12 2).trans (show _ = some (.slice sU j cU) from rfl)
        have f2 := hp_frz X12 2
        have E13 := E12.out.bw xr.bw
        have T13 := Tn.out.trans (xr.bw.still _)
        clear X11 E12 Tn
        generalize xr.now = w12 at *
        clear xr
        have hxl := X12.lt
        have V2 : Hid (∀ q x, q < j + 1 → parts[q]? = some x → ∀ n : Nat, n ≤ 1048576 → x = Lib.decDigits n → (ls ++ [xn]).getD q 0 = n) := Lib.hid (fun q x hq hxq n hn e => by
         by_cases hqj : q < j
         ·have := V.out q x hqj hxq n hn e
          rw [← this]
          unfold List.getD
          rw [List.getElem?_append_left (by rw [hls.out]; exact hqj)]
         ·obtain rfl : q = j := by omega
          have h1 : x = pj := Option.some.inj (hxq.symm.trans hjg.out)
          have := hxj.out n hn (by rw [← h1]; exact e)
          unfold List.getD
          rw [List.getElem?_append_right (by rw [hls.out]; exact Nat.le_refl _), hls.out, Nat.sub_self]
          exact this)
        have hgn : Hid (∀ k ∈ (Value.slice s11 (j + 1) c11).ownBlock.toList, k ≠ gx) := Lib.hid (fun k hk => by
         have h1 := E13.ne X12 (by decide) k (by simpa using hk)
         exact h1)
        have XN : Hid (HpB (w12.setCell ⟨gx, 2, none⟩ (.slice s11 (j + 1) c11)) gx (.cells #[.int .i64 vt, .int .i64 cv, .slice s11 (j + 1) c11] 41)) := Lib.hid (hp_set X12 2 _)
        have EN : Hid (EQ EU4 38 (w12.setCell ⟨gx, 2, none⟩ (.slice s11 (j + 1) c11)) b5 (.slice s11 (j + 1) c11) (j + 1) (ls ++ [xn])) := Lib.hid (E13.still (still_setR w12 gx 2 _) (fun _ _ => trivial) (fun k hk hm => hgn.out k (by simpa using hk) (by simpa using hm)))
        have T14 : Hid (Still [gx] w8 (w12.setCell ⟨gx, 2, none⟩ (.slice s11 (j + 1) c11))) := Lib.hid (T13.own3 (still_setR w12 gx 2 _) (fun k hk => .inl hk))
        clear V hxj hgn X12 E13 T13 hls hjg U X T8 hxl
        go_wp2_with fail
        go_roundg (n8 - (j + 1))
        case measure => omega
        case rel => exact ⟨j + 1, ls ++ [xn], s11, c11, rfl, by omega, by first | rfl | (push_cast; rfl), XN, EN, V2, T14⟩
       ·obtain rfl : j = n8 := by omega
        have dj : decide ((j : Int) < (j : Int)) = false := by simp
        have hlsl : Hid (ls.length = (cutB 44 p3).length) := Lib.hid (by rw [hpe.out, hpl.out]; exact U.out.1)
        have hsrc : Hid (∀ l : List Nat, l ≠ [] → (∀ q ∈ l, q ≤ 1048576) → p3 = srcT l → ls = l) := Lib.hid (src_parts hlsl.out (fun q x hxq n hn e => V.out q x (by
         have := (List.getElem?_eq_some_iff.1 hxq).1
         rw [hpe.out, hpl.out] at this
         exact this) (by rw [← hpe.out]; exact hxq) n hn e))
        replace D := Lib.hid (D.out.stP T8.out (fun k hk => by obtain rfl : k = gx := (by simpa using hk); exact hgx.out))
        clear V T8 hlsl hpl hpe hqs hc8 h8x
        have q2 := (hp_cell (R.out.hp.bw D.out) 1).trans (show _ = some (.slice sW nW cW) from rfl)
        have L := Lib.hid (Sls.new1 (E := EWo) wr 41 [.int .i64 vt, .int .i64 cv, .slice sU j cU] rfl)
        have hbA := (BW.refl wr).alloc (o := .cells [Value.int .i64 vt, .int .i64 cv, .slice sU j cU].toArray 41)
        have hRW : Hid (EWo.R (wr.alloc (.cells [Value.int .i64 vt, .int .i64 cv, .slice sU j cU].toArray 41)) b3 ⟨vt, cv, ls⟩ [.int .i64 vt, .int .i64 cv, .slice sU j cU]) := Lib.hid ⟨sU, j, cU, rfl, (U.out.bw hbA).up hb35.out⟩
        have R7 := Lib.hid (R.out.bw (D.out.trans hbA))
        have T7 := Lib.hid (T.out.trans ((D.out.trans hbA).still [g4]))
        have hz7 := Lib.hid (Nat.le_trans (Nat.le_of_eq hbe.out.symm) T7.out.size)
        obtain ⟨csr, hcr⟩ := hr7.out
        have hr7A := Lib.hid ((D.out.trans hbA).heap hcr)
        have z0A := Lib.hid ((D.out.trans hbA).cell (hc7.out 0 kTrack rfl))
        clear hbA hcr
        obtain ⟨_, _, he, hnWc, hcWm⟩ := R7.out.qw.len
        cases he
        unfold maxLen at hcWm
        go_upto_region 23 with (first | (refine swLd swWi rfl rfl rfl X.out rfl ?_) | (at_builtin; go_must (refine wpList_apEQ slWi rfl _ _ rfl b3 (.slice sW nW cW) nW d.W rfl R7.out.qw _ rfl 1 [⟨vt, cv, ls⟩] _ L.out (EL.single hRW.out) rfl (by omega) hz7.out (R7.out.qw.noU (by decide)) ?_; intro s8 c8 w8 hc8 hm8 E8 T8 B8 G8; unfold maxLen at hm8; have R8 := R7.out.hp.st T8 (fun hm => R7.out.qw.ne R7.out.hp (by decide) _ (by simpa using hm) rfl); have y8 := (hp_cell R8 1).trans (show _ = some (.slice sW nW cW) from rfl); have f8 := hp_frz R8 1; have zN := (still_setR w8 g4 1 (.slice s8 (nW + 1) c8)).cellN (a := ⟨g7, o7 + 0, none⟩) (T8.cellN (a := ⟨g7, o7 + 0, none⟩) z0A.out (fun hm => R7.out.qw.ne hr7A.out (by decide) _ (by simpa using hm) rfl)) (by simpa using h74.out); have RN := Lib.hid (R7.out.wish T8 E8); have TN := Lib.hid ((T7.out.own3 T8 (fun k hk => .inr (by rw [hbe.out]; exact R7.out.qw.ge' k (by simpa using hk)))).own3 (still_setR w8 g4 1 (.slice s8 (nW + 1) c8)) (fun k hk => .inl hk)); clear B8 G8 T8 E8 R8)))
        clear y8 f8
        generalize w8.setCell ⟨g4, 1, none⟩ (.slice s8 (nW + 1) c8) = wN at *
        replace zN : wN.cell? ⟨g7, o7, none⟩ = some (.string (bS kTrack)) := zN
        replace hP : Hid (∀ o, MayO o → S.data.toList = offT o → { d with W := d.W ++ [⟨vt, cv, ls⟩] } = partO o (i + 1)) := Lib.hid (fun o hM e => part_trackS hM (hK.out o hM e) (hP.out o hM e) hvt.out hcod.out hsrc.out)
        clear R T R7 T7 D X L hz7 hRW hK hsrc hcod hvt U q2 hc7 z3 hr7A z0A
        go_wp2_with fail
        go_roundg (m - (i + 1))
        case measure => omega
        case rel => exact ⟨i + 1, _, _, _, _, _, _, _, rfl, by omega, by first | rfl | (push_cast; rfl), by omega, by omega, RN, hP, TN⟩
    ·have dk : ((bS p0).toList == [116, 114, 97, 99, 107]) = false := key_ne hk
     by_cases hk2 : p0 = kHear
     ·have dk2 : ((bS p0).toList == [104, 101, 97, 114]) = true := key_eq hk2
      subst hk2
      replace hk := Lib.hid hk
      have z1 := hc7.out 1 p1 rfl
      have z2 := hc7.out 2 p2 rfl
      have z3 := Lib.hid (hc7.out 3 p3 rfl)
      have c1 := Lib.hid (fun y : World => num_any (bS p1) (by rw [bS_size]; have := hx.out p1 (by simp); omega) y)
      have c2 := Lib.hid (fun y : World => num_any (bS p2) (by rw [bS_size]; have := hx.out p2 (by simp); omega) y)
      have c3 := Lib.hid (fun y : World => num_any (bS p3) (by rw [bS_size]; have := hx.out p3 (by simp); omega) y)
      have m0 : ∀ y : LaterS [] w5, _ := fun y => y.bw.cell z1
      have m2 : ∀ y : LaterS [] w5, _ := fun y => y.bw.cell z2
      go_upto_region 24 with (fail)
      clear z0 z1 z2
      refine wp_region_gg [] [] [10] (by kernel_rfl) ?_
      refine float 9 (fun g => .pointer (some ⟨g, 0, none⟩)) (.cells #[.int .i64 0, .int .i64 0, .int .i64 0] 43) rfl (by kernel_rfl) (by first | assumption | (intro k hk; cases hk) | omega) rfl (fun x => (by go_simp)) ?_
      refine hoist [] [] (a1 := ?_) 0 rfl (by kernel_rfl) (.inl ⟨rfl, rfl⟩) rfl rfl rfl (fun x K hK => ?_) ?_
      rotate_left
      ·go_big_quiet_op
       exact hK
      refine hoist [] [] (a1 := ?_) 1 rfl (by kernel_rfl) (.inl ⟨rfl, rfl⟩) rfl rfl rfl (fun x K hK => ?_) ?_
      rotate_left
      ·go_big_quiet_op
       exact hK
      refine hoist [] [] (a1 := ?_) 2 rfl (by kernel_rfl) (.inl ⟨rfl, rfl⟩) rfl rfl rfl (fun x K hK => ?_) ?_
      rotate_left
      ·go_big_quiet_op
       exact hK
      refine hoist [] [] (a1 := ?_) 4 rfl (by kernel_rfl) (.inl ⟨rfl, rfl⟩) rfl rfl rfl (fun x K hK => ?_) ?_
      rotate_left
      ·go_big_quiet_op
       exact hK
      refine hoist [] [] (a1 := ?_) 5 rfl (by kernel_rfl) (.inl ⟨rfl, rfl⟩) rfl rfl rfl (fun x K hK => ?_) ?_
      rotate_left
      ·go_big_quiet_op
       exact hK
      refine hoist [] [] (a1 := ?_) 6 rfl (by kernel_rfl) (.inl ⟨rfl, rfl⟩) rfl rfl rfl (fun x K hK => ?_) ?_
      rotate_left
      ·go_big_quiet_op
       exact hK
      refine effect 3 rfl (by kernel_rfl) (by kernel_rfl) rfl (fun x3 K hK => ?_)
      go_simp
      refine Calls.mono (c1.out x3.now) ?_
      rintro e w6 ⟨⟨va, rfl, hva1, hva2, hva⟩, hb⟩
      refine hK _ _ (hb.still _) ?_
      rw [bS_list] at hva
      replace hva := Lib.hid hva
      have BB := Lib.hid (x3.bw.trans hb)
      clear hb hK K m0 m2
      try simp only [Act.put, List.setIfInBounds_toArray, List.set_cons_succ, List.set_cons_zero]
      refine effect 7 rfl (by kernel_rfl) (by kernel_rfl) rfl (fun x7 K hK => ?_)
      go_simp
      refine Calls.mono (c2.out x7.now) ?_
      rintro e w8 ⟨⟨vb, rfl, hvb1, hvb2, hvb⟩, hb⟩
      refine hK _ _ (hb.still _) ?_
      rw [bS_list] at hvb
      replace hvb := Lib.hid hvb
      replace BB := Lib.hid (BB.out.trans (x7.bw.trans hb))
      clear hb hK K
      try simp only [Act.put, List.setIfInBounds_toArray, List.set_cons_succ, List.set_cons_zero]
      refine hoist [] [] (a1 := ?_) 8 rfl (by kernel_rfl) (.inl ⟨rfl, rfl⟩) rfl rfl rfl (fun x K hK => ?_) ?_
      rotate_left
      ·go_big_quiet_op
       exact hK
      refine tailF 10 rfl (by kernel_rfl) rfl (fun xr => ?_)
      intro g9 hg9 hG9
      refine fin_nil ?_
      dsimp only at hg9 hG9
      try simp only [Act.put, List.setIfInBounds_toArray, List.set_cons_succ, List.set_cons_zero]
      simp only [List.drop_succ_cons, List.drop_zero]
      have D := BB.out.trans xr.bw
      have X9 : HpB xr.now g9 (.cells #[.int .i64 0, .int .i64 0, .int .i64 0] 43) := hG9
      clear hG9 BB
      generalize xr.now = w9 at *
      clear xr
      have hg9' := Lib.hid hg9
      go_upto_region 25 with (refine swSt swHe rfl rfl rfl rfl X9 rfl rfl (by kernel_rfl) ?_)
      replace D := D.stP (still_rowS w9 g9 #[.int .i64 va, .int .i64 vb, .int .i64 (-1)]) (fun k hk => by obtain rfl : k = g9 := (by simpa using hk); exact hg9'.out)
      replace X9 := X9.rowS #[.int .i64 va, .int .i64 vb, .int .i64 (-1)]
      generalize w9.setRow g9 _ = w10 at *
      replace D := Lib.hid D
      replace X9 := Lib.hid X9
      have z3' := D.out.cell z3.out
      by_cases hz : p3 = [45]
      ·have dz : ((bS p3).toList == [45]) = true := key_eq hz
       have hl2 : Hid (p3 ≠ [45] → ∀ n : Nat, n ≤ 1048576 → p3 = Lib.decDigits n → (-1 : Int) = n) := Lib.hid (fun h => absurd hz h)
       replace hz := Lib.hid hz
       go_upto_region 27 with (fail)
       clear z3' dz
       obtain ⟨lv, hlv⟩ : ∃ l : Int, -1 = l := ⟨_, rfl⟩
       have hl : Hid (p3 = [45] → lv = -1) := Lib.hid (fun _ => hlv.symm)
       rw [hlv] at X9 hl2
       clear hlv
       have q2 := (hp_cell (R.out.hp.bw D.out) 2).trans (show _ = some (.slice sH nH cH) from rfl)
       have L := Lib.hid (Sls.new1 (E := EHe) w10 43 [.int .i64 va, .int .i64 vb, .int .i64 lv] rfl)
       have hbA := (BW.refl w10).alloc (o := .cells [Value.int .i64 va, .int .i64 vb, .int .i64 lv].toArray 43)
       have R7 := Lib.hid (R.out.bw (D.out.trans hbA))
       have T7 := Lib.hid (T.out.trans ((D.out.trans hbA).still [g4]))
       have hz7 := Lib.hid (Nat.le_trans (Nat.le_of_eq hbe.out.symm) T7.out.size)
       clear hbA
       obtain ⟨_, _, he, hnHc, hcHm⟩ := R7.out.qh.len
       cases he
       unfold maxLen at hcHm
       go_upto_region 5 with (first | (refine swLd swHe rfl rfl rfl X9.out rfl ?_) | (at_builtin; go_must (refine wpList_apEQ slHe rfl _ _ rfl b3 (.slice sH nH cH) nH d.H rfl R7.out.qh _ rfl 1 [⟨va, vb, lv⟩] _ L.out (EL.single rfl) rfl (by omega) hz7.out (fun _ _ => trivial) ?_; intro s8 c8 w8 hc8 hm8 E8 T8 B8 G8; unfold maxLen at hm8; have R8 := R7.out.hp.st T8 (fun hm => R7.out.qh.ne R7.out.hp (by decide) _ (by simpa using hm) rfl); have y8 := (hp_cell R8 2).trans (show _ = some (.slice sH nH cH) from rfl); have f8 := hp_frz R8 2; have RN := Lib.hid (R7.out.hear T8 E8); have TN := Lib.hid ((T7.out.own3 T8 (fun k hk => .inr (by rw [hbe.out]; exact R7.out.qh.ge' k (by simpa using hk)))).own3 (still_setR w8 g4 2 (.slice s8 (nH + 1) c8)) (fun k hk => .inl hk)); clear B8 G8 T8 E8 R8)))
       replace hP : Hid (∀ o, MayO o → S.data.toList = offT o → { d with H := d.H ++ [⟨va, vb, lv⟩] } = partO o (i + 1)) := Lib.hid (fun o hM e => part_hearS hM (hK.out o hM e) (hP.out o hM e) hva.out hvb.out hl.out hl2.out)
       clear R T R7 T7 D X9 L hz7 hK hc7 hl hl2 y8 f8 q2 hva hvb c1 c2 c3 z3
       go_wp2_with fail
       go_roundg (m - (i + 1))
       case measure => omega
       case rel => exact ⟨i + 1, _, _, _, _, _, _, _, rfl, by omega, by first | rfl | (push_cast; rfl), by omega, by omega, RN, hP, TN⟩
      ·have dz : ((bS p3).toList == [45]) = false := key_ne hz
       go_wp2_with fail
       refine Calls.mono (c3.out w10) ?_
       rintro e w11 ⟨⟨lv, rfl, hlv1, hlv2, hlv⟩, hb⟩
       rw [bS_list] at hlv
       have hl : Hid (p3 = [45] → lv = -1) := Lib.hid (fun h => absurd h hz)
       have hl2 : Hid (p3 ≠ [45] → ∀ n : Nat, n ≤ 1048576 → p3 = Lib.decDigits n → lv = n) := Lib.hid (fun _ => hlv)
       replace D := D.out.trans hb
       replace X9 := X9.out.bw hb
       have y2 := (hp_cell X9 2).trans (show _ = some (.int .i64 (-1)) from rfl)
       have f2 := hp_frz X9 2
       replace D := Lib.hid (D.stP (still_setR w11 g9 2 (.int .i64 lv)) (fun k hk => by obtain rfl : k = g9 := (by simpa using hk); exact hg9'.out))
       replace X9 : Hid (HpB (w11.setCell ⟨g9, 2, none⟩ (.int .i64 lv)) g9 (.cells #[.int .i64 va, .int .i64 vb, .int .i64 lv] 43)) := Lib.hid (hp_set X9 2 _)
       clear z3' dz hb hlv
       replace hz := Lib.hid hz
       dsimp only
       go_upto_region 27 with (fail)
       clear y2 f2
       generalize w11.setCell _ _ = w10 at *
       have q2 := (hp_cell (R.out.hp.bw D.out) 2).trans (show _ = some (.slice sH nH cH) from rfl)
       have L := Lib.hid (Sls.new1 (E := EHe) w10 43 [.int .i64 va, .int .i64 vb, .int .i64 lv] rfl)
       have hbA := (BW.refl w10).alloc (o := .cells [Value.int .i64 va, .int .i64 vb, .int .i64 lv].toArray 43)
       have R7 := Lib.hid (R.out.bw (D.out.trans hbA))
       have T7 := Lib.hid (T.out.trans ((D.out.trans hbA).still [g4]))
       have hz7 := Lib.hid (Nat.le_trans (Nat.le_of_eq hbe.out.symm) T7.out.size)
       clear hbA
       obtain ⟨_, _, he, hnHc, hcHm⟩ := R7.out.qh.len
       cases he
       unfold maxLen at hcHm
       go_upto_region 5 with (first | (refine swLd swHe rfl rfl rfl X9.out rfl ?_) | (at_builtin; go_must (refine wpList_apEQ slHe rfl _ _ rfl b3 (.slice sH nH cH) nH d.H rfl R7.out.qh _ rfl 1 [⟨va, vb, lv⟩] _ L.out (EL.single rfl) rfl (by omega) hz7.out (fun _ _ => trivial) ?_; intro s8 c8 w8 hc8 hm8 E8 T8 B8 G8; unfold maxLen at hm8; have R8 := R7.out.hp.st T8 (fun hm => R7.out.qh.ne R7.out.hp (by decide) _ (by simpa using hm) rfl); have y8 := (hp_cell R8 2).trans (show _ = some (.slice sH nH cH) from rfl); have f8 := hp_frz R8 2; have RN := Lib.hid (R7.out.hear T8 E8); have TN := Lib.hid ((T7.out.own3 T8 (fun k hk => .inr (by rw [hbe.out]; exact R7.out.qh.ge' k (by simpa using hk)))).own3 (still_setR w8 g4 2 (.slice s8 (nH + 1) c8)) (fun k hk => .inl hk)); clear B8 G8 T8 E8 R8)))
       replace hP : Hid (∀ o, MayO o → S.data.toList = offT o → { d with H := d.H ++ [⟨va, vb, lv⟩] } = partO o (i + 1)) := Lib.hid (fun o hM e => part_hearS hM (hK.out o hM e) (hP.out o hM e) hva.out hvb.out hl.out hl2.out)
       clear R T R7 T7 D X9 L hz7 hK hc7 hl hl2 y8 f8 q2 hva hvb c1 c2 c3 z3
       go_wp2_with fail
       go_roundg (m - (i + 1))
       case measure => omega
       case rel => exact ⟨i + 1, _, _, _, _, _, _, _, rfl, by omega, by first | rfl | (push_cast; rfl), by omega, by omega, RN, hP, TN⟩
     ·have dk2 : ((bS p0).toList == [104, 101, 97, 114]) = false := key_ne hk2
      replace hP : Hid (∀ o, MayO o → S.data.toList = offT o → d = partO o (i + 1)) := Lib.hid (fun o hM e => by
       rw [hP.out o hM e]
       exact part_keep (hK.out o hM e) (fun a e => by simp at e) (fun a b c e => hk (by simp only [List.cons.injEq] at e; exact e.1)) (fun a b c e => hk2 (by simp only [List.cons.injEq] at e; exact e.1)))
      clear hK hc7
      replace hk := Lib.hid hk
      replace hk2 := Lib.hid hk2
      go_wp2_with fail
      go_roundg (m - (i + 1))
      case measure => omega
      case rel => exact ⟨i + 1, _, _, _, _, _, _, _, rfl, by omega, by first | rfl | (push_cast; rfl), by omega, by omega, R, hP, T⟩
   ·have d4 : ((n : Int) == 4) = false := beq_eq_false_iff_ne.2 (by omega)
    replace hP : Hid (∀ o, MayO o → S.data.toList = offT o → d = partO o (i + 1)) := Lib.hid (fun o hM e => by
     rw [hP.out o hM e]
     refine part_keep (hK.out o hM e) (fun a e => ?_) (fun a b c e => ?_) (fun a b c e => ?_)
     ·rw [e] at hwn; exact h2 hwn.symm
     ·rw [e] at hwn; exact h4n hwn.symm
     ·rw [e] at hwn; exact h4n hwn.symm)
    clear hK hc7
    replace hwn := Lib.hid hwn
    go_wp2_with fail
    go_roundg (m - (i + 1))
    case measure => omega
    case rel => exact ⟨i + 1, _, _, _, _, _, _, _, rfl, by omega, by first | rfl | (push_cast; rfl), by omega, by omega, R, hP, T⟩
  ·obtain rfl : i = m := by omega
   have di : decide ((i : Int) < (i : Int)) = false := by simp
   have hAll : Hid (∀ o, MayO o → S.data.toList = offT o → d = o) := Lib.hid (fun o hM e => by
    rw [hP.out o hM e]
    refine part_all o ?_
    have h1 := hLm.out
    rw [e, cut_offT, lines_len] at h1
    omega)
   go_wp2_with (refine swLd swOf rfl rfl rfl R.out.hp rfl ?_)
   refine Calls.mono (rmay_any _ d sW cW sH cH wr R.out.off) ?_
   rintro e w5 ⟨⟨b, rfl, hb1⟩, hb⟩
   dsimp only
   cases b with
   | false =>
    have hNo : Hid (∀ o, MayO o → S.data.toList ≠ offT o) := Lib.hid (fun o hM e => by
     have := hb1.2 (by rw [hAll.out o hM e]; exact hM)
     cases this)
    have BD := hb
    clear hb hb1 hAll
    have G9 := Lib.hid ((G2.out.st T.out (by simpa using h24.out)).bw BD)
    have B9 := Lib.hid ((B.out.stP T.out (fun k hk => by obtain rfl : k = g4 := (by simpa using hk); rw [hgw.out]; exact h4.out)).trans BD)
    clear R T G2 B hP BD
    go_wp2_with (refine swSt swOf rfl rfl rfl rfl G9.out rfl rfl (by kernel_rfl) ?_)
    have G10 := G9.out.rowS #[.int .i64 0, .slice none 0 0, .slice none 0 0]
    have z0 := (hp_cell G10 0).trans (show _ = some (.int .i64 0) from rfl)
    have z1 := (hp_cell G10 1).trans (show _ = some (.slice none 0 0) from rfl)
    have z2 := (hp_cell G10 2).trans (show _ = some (.slice none 0 0) from rfl)
    exact bodyPost_ret (v := .tuple #[.agg #[.int .i64 0, .slice none 0 0, .slice none 0 0], .bool false]) (by simp [results, Tryz.results12, go_sem, z0, z1, z2]) rfl ⟨.inr ⟨hNo.out, rfl⟩, B9.out.stP (still_rowS _ _ _) (fun k hk => by obtain rfl : k = g2 := (by simpa using hk); rw [hgw.out]; exact Nat.le_refl _)⟩
   | true =>
    have hM := hb1.1 rfl
    have R5 := Lib.hid (R.out.bw hb)
    go_wp2_with (refine swLdG swOf (by rfl) rfl rfl R5.out.hp rfl ?_)
    refine Calls.mono (rwrite_any _ d sW cW sH cH w5 R5.out.off hM) ?_
    rintro e w6 ⟨⟨S2, hS2, -, rfl⟩, hb2⟩
    have BD := hb.trans hb2
    clear hb hb2 R5
    dsimp only
    by_cases hE : S2 = S
    ·have dE : (S2.toList == S.toList) = true := ba_beq hE
     have R6 := Lib.hid (R.out.bw BD)
     have G9 := Lib.hid ((G2.out.st T.out (by simpa using h24.out)).bw BD)
     have B9 := Lib.hid ((B.out.stP T.out (fun k hk => by obtain rfl : k = g4 := (by simpa using hk); rw [hgw.out]; exact h4.out)).trans BD)
     have hText : Hid (S.data.toList = offT d) := Lib.hid (by rw [← hE]; exact hS2)
     have hM2 := Lib.hid hM
     clear R T G2 B hP BD hAll hb1 hM hS2
     replace hE := Lib.hid hE
     go_wp2_with (first | (refine swLd swOf rfl rfl rfl R6.out.hp rfl ?_) | (refine swSt swOf rfl rfl rfl rfl G9.out rfl rfl (by kernel_rfl) ?_))
     have G10 := G9.out.rowS #[.int .i64 d.seat, .slice sW nW cW, .slice sH nH cH]
     have z0 := (hp_cell G10 0).trans (show _ = some (.int .i64 d.seat) from rfl)
     have z1 := (hp_cell G10 1).trans (show _ = some (.slice sW nW cW) from rfl)
     have z2 := (hp_cell G10 2).trans (show _ = some (.slice sH nH cH) from rfl)
     have R10 := R6.out.stO (still_rowS w6 g2 #[.int .i64 d.seat, .slice sW nW cW, .slice sH nH cH]) (by have := hb3.out; have := h4.out; omega) h24.out
     exact bodyPost_ret (v := .tuple #[.agg #[.int .i64 d.seat, .slice sW nW cW, .slice sH nH cH], .bool true]) (by simp [results, Tryz.results12, go_sem, z0, z1, z2]) rfl ⟨.inl ⟨d, _, sW, cW, sH, cH, hM2.out, hText.out, R10.off, rfl⟩, B9.out.stP (still_rowS _ _ _) (fun k hk => by obtain rfl : k = g2 := (by simpa using hk); rw [hgw.out]; exact Nat.le_refl _)⟩
    ·have dE : (S2.toList == S.toList) = false := ba_bne hE
     have hNo : Hid (∀ o, MayO o → S.data.toList ≠ offT o) := Lib.hid (fun o hMo e => hE (ba_ext (by rw [hS2, e, hAll.out o hMo e])))
     clear hb1 hAll hM hS2
     replace hE := Lib.hid hE
     have G9 := Lib.hid ((G2.out.st T.out (by simpa using h24.out)).bw BD)
     have B9 := Lib.hid ((B.out.stP T.out (fun k hk => by obtain rfl : k = g4 := (by simpa using hk); rw [hgw.out]; exact h4.out)).trans BD)
     clear R T G2 B hP BD
     go_wp2_with (refine swSt swOf rfl rfl rfl rfl G9.out rfl rfl (by kernel_rfl) ?_)
     have G10 := G9.out.rowS #[.int .i64 0, .slice none 0 0, .slice none 0 0]
     have z0 := (hp_cell G10 0).trans (show _ = some (.int .i64 0) from rfl)
     have z1 := (hp_cell G10 1).trans (show _ = some (.slice none 0 0) from rfl)
     have z2 := (hp_cell G10 2).trans (show _ = some (.slice none 0 0) from rfl)
     exact bodyPost_ret (v := .tuple #[.agg #[.int .i64 0, .slice none 0 0, .slice none 0 0], .bool false]) (by simp [results, Tryz.results12, go_sem, z0, z1, z2]) rfl ⟨.inr ⟨hNo.out, rfl⟩, B9.out.stP (still_rowS _ _ _) (fun k hk => by obtain rfl : k = g2 := (by simpa using hk); rw [hgw.out]; exact Nat.le_refl _)⟩
end Go.Proofs.YtafhnlnhflehhaaGreatDoor
