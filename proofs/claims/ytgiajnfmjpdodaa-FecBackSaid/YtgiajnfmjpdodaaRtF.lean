/- rtp.read: what all bytes are, with the way out behind a panic. No condition but the sizes'. -/
import Derived.Test.YtgiajnfmjpdodaaRtD
import Derived.Test.YtgiajnfmjpdodaaRtE
namespace Go.Proofs.Ytgiajnfmjpdodaa
open Go.RowKit

theorem qlR {C : World → Prop} {a a1 : Act} {o : Oper} {K : Act → Prop} {x : Operand} (ho : o.op = .load 28 x) {g : Nat} (hx : a.eval x = .pointer (some ⟨g, 0, none⟩)) {c : Array Value} (hl : c.size = 11) (h : ∀ w, C w → PkV w g c) (ha : a.put o.dst (.agg c) = a1) (hK : K a1) : o.quiet Try.prog a C K :=
  quiet_load_row 28 x ho g hx 28 c (0, 0) _ Try.underlying28 rfl (by rw [hl]; kernel_rfl) h ha hK
theorem HpB.newAt (w : World) (o : Obj) (n : Nat) (h : n = w.heap.size) : HpB (w.alloc o) n o := hp_new w o n h
theorem BW.stl {a b c : World} (h : BW a b) {S : List Nat} (t : Still S b c) (hS : ∀ k ∈ S, a.heap.size ≤ k) : BW a c := h.step (t.below (B := a.heap.size) h.size hS) (Nat.le_refl _)
def ReadPost (R : Nat × Nat × RtpD) (w : World) (e : Ending) (w' : World) : Prop := ∃ c, e = .returned (.tuple #[.agg c, .int .i64 (R.2.1 : Nat), .int .i64 (R.1 : Nat)]) ∧ RtpO w' w.heap.size c R.2.2 ∧ BW w w'
theorem readN_err (l : List Nat) (h : (readN l).1 ≠ 0) : readN l = ((readN l).1, 0, rZero) := by
  revert h
  have key : ∀ R : Nat × Nat × RtpD, (R.1 = 0 ∨ R = (R.1, 0, rZero)) → R.1 ≠ 0 → R = (R.1, 0, rZero) := fun R h h0 => h.resolve_left h0
  refine key _ ?_
  unfold readN
  split
  · exact .inr rfl
  split
  · exact .inr rfl
  split
  · exact .inr rfl
  split
  · exact .inr rfl
  dsimp only
  split
  · exact .inr rfl
  split
  · exact .inr rfl
  · exact .inl rfl

set_option maxRecDepth 100000 in
set_option maxHeartbeats 8000000 in
theorem read_any (v : Value) (len : Nat) (l : List Nat) (hlen : len ≤ 1000000000000) (w : World) (hv : SB w v len l) :
    Calls Try.prog 54 #[v] w (ReadPost (readN l) w) := by
  have hmf : ∀ (fn : Fn) (first cap : Array Value) (w : World), (Instr.makeFunc fn first cap).run Try.prog w = .ok (.func fn first cap) w := fun _ _ _ _ => rfl
  have hpk := fun g wz hr hv hg => Lib.hid (rpacket_ok g l v len hlen wz hr hv hg)
  have her := readN_err l
  generalize readN l = R at *
  obtain ⟨sa, cap, rfl, hcap, hm⟩ := hv.len
  replace her := Lib.hid her
  replace hv := Lib.hid hv
  go_enter_defers Try.func54, Try.ntmps54
  have B1 : BW w (w.alloc (.cells #[.bool false, .int .u8 0, .int .u16 0, .int .u32 0, .int .u32 0, .slice none 0 0, .bool false, .int .u16 0, .slice none 0 0, .slice none 0 0, .int .u8 0] 28)) := (BW.refl w).alloc
  have B2 : BW (w.alloc (.cells #[.bool false, .int .u8 0, .int .u16 0, .int .u32 0, .int .u32 0, .slice none 0 0, .bool false, .int .u16 0, .slice none 0 0, .slice none 0 0, .int .u8 0] 28)) ((w.alloc (.cells #[.bool false, .int .u8 0, .int .u16 0, .int .u32 0, .int .u32 0, .slice none 0 0, .bool false, .int .u16 0, .slice none 0 0, .slice none 0 0, .int .u8 0] 28)).alloc (.cells #[.int .i64 0] 3)) := (BW.refl _).alloc
  have B3 : BW ((w.alloc (.cells #[.bool false, .int .u8 0, .int .u16 0, .int .u32 0, .int .u32 0, .slice none 0 0, .bool false, .int .u16 0, .slice none 0 0, .slice none 0 0, .int .u8 0] 28)).alloc (.cells #[.int .i64 0] 3)) (((w.alloc (.cells #[.bool false, .int .u8 0, .int .u16 0, .int .u32 0, .int .u32 0, .slice none 0 0, .bool false, .int .u16 0, .slice none 0 0, .slice none 0 0, .int .u8 0] 28)).alloc (.cells #[.int .i64 0] 3)).alloc (.cells #[.int .i64 0] 29)) := (BW.refl _).alloc
  have B4 : BW (((w.alloc (.cells #[.bool false, .int .u8 0, .int .u16 0, .int .u32 0, .int .u32 0, .slice none 0 0, .bool false, .int .u16 0, .slice none 0 0, .slice none 0 0, .int .u8 0] 28)).alloc (.cells #[.int .i64 0] 3)).alloc (.cells #[.int .i64 0] 29)) ((((w.alloc (.cells #[.bool false, .int .u8 0, .int .u16 0, .int .u32 0, .int .u32 0, .slice none 0 0, .bool false, .int .u16 0, .slice none 0 0, .slice none 0 0, .int .u8 0] 28)).alloc (.cells #[.int .i64 0] 3)).alloc (.cells #[.int .i64 0] 29)).alloc (.cells #[.slice sa len cap, .int .i64 0] 141)) := (BW.refl _).alloc
  have P4 : PkV ((((w.alloc (.cells #[.bool false, .int .u8 0, .int .u16 0, .int .u32 0, .int .u32 0, .slice none 0 0, .bool false, .int .u16 0, .slice none 0 0, .slice none 0 0, .int .u8 0] 28)).alloc (.cells #[.int .i64 0] 3)).alloc (.cells #[.int .i64 0] 29)).alloc (.cells #[.slice sa len cap, .int .i64 0] 141)) w.heap.size zC := (((HpB.new w _).bw B2).bw B3).bw B4
  have Q4 : HpB ((((w.alloc (.cells #[.bool false, .int .u8 0, .int .u16 0, .int .u32 0, .int .u32 0, .slice none 0 0, .bool false, .int .u16 0, .slice none 0 0, .slice none 0 0, .int .u8 0] 28)).alloc (.cells #[.int .i64 0] 3)).alloc (.cells #[.int .i64 0] 29)).alloc (.cells #[.slice sa len cap, .int .i64 0] 141)) (w.heap.size + 1) (.cells #[.int .i64 0] 3) := HpB.bw (HpB.bw (HpB.newAt _ _ _ (by simp)) B3) B4
  have E4 : HpB ((((w.alloc (.cells #[.bool false, .int .u8 0, .int .u16 0, .int .u32 0, .int .u32 0, .slice none 0 0, .bool false, .int .u16 0, .slice none 0 0, .slice none 0 0, .int .u8 0] 28)).alloc (.cells #[.int .i64 0] 3)).alloc (.cells #[.int .i64 0] 29)).alloc (.cells #[.slice sa len cap, .int .i64 0] 141)) (w.heap.size + 1 + 1) (.cells #[.int .i64 0] 29) := HpB.bw (HpB.newAt _ _ _ (by simp)) B4
  have R4 : Rdr ((((w.alloc (.cells #[.bool false, .int .u8 0, .int .u16 0, .int .u32 0, .int .u32 0, .slice none 0 0, .bool false, .int .u16 0, .slice none 0 0, .slice none 0 0, .int .u8 0] 28)).alloc (.cells #[.int .i64 0] 3)).alloc (.cells #[.int .i64 0] 29)).alloc (.cells #[.slice sa len cap, .int .i64 0] 141)) (w.heap.size + 1 + 1 + 1) (.slice sa len cap) 0 := hp_new _ _ _ (by simp)
  have B5 := Lib.hid (((B1.trans B2).trans B3).trans B4)
  have hz4 : w.heap.size + 1 + 1 + 1 < ((((w.alloc (.cells #[.bool false, .int .u8 0, .int .u16 0, .int .u32 0, .int .u32 0, .slice none 0 0, .bool false, .int .u16 0, .slice none 0 0, .slice none 0 0, .int .u8 0] 28)).alloc (.cells #[.int .i64 0] 3)).alloc (.cells #[.int .i64 0] 29)).alloc (.cells #[.slice sa len cap, .int .i64 0] 141)).heap.size := by simp
  replace P4 := Lib.hid P4
  replace Q4 := Lib.hid Q4
  replace E4 := Lib.hid E4
  replace R4 := Lib.hid R4
  clear B1 B2 B3 B4
  go_upto_region 3 with (fail)
  generalize (((w.alloc (.cells #[.bool false, .int .u8 0, .int .u16 0, .int .u32 0, .int .u32 0, .slice none 0 0, .bool false, .int .u16 0, .slice none 0 0, .slice none 0 0, .int .u8 0] 28)).alloc (.cells #[.int .i64 0] 3)).alloc (.cells #[.int .i64 0] 29)).alloc (.cells #[.slice sa len cap, .int .i64 0] 141) = w4 at *
  have V4 := hv.out.bw B5.out
  have hg4 : 12 ≤ len → ∀ k, (Value.slice sa len cap).ownBlock = some k → k ≠ w.heap.size + 1 + 1 + 1 := fun h0 k hk => by
    have := hv.out.own_lt (by omega) k hk
    omega
  replace V4 := Lib.hid V4
  go_wp2_with fail
  refine Calls.mono (hpk _ w4 R4.out V4.out hg4).out ?_
  rintro e w5 hpost
  rcases hpost with ⟨h0, c, rfl, O, T⟩ | ⟨h0, rfl, T⟩
  · obtain ⟨ov, ev, pv, rfl, N, E, D⟩ := O
    obtain ⟨so_, co, rfl, _, _⟩ := N.len
    obtain ⟨se, ce, rfl, _, _⟩ := E.len
    obtain ⟨sp, cp, rfl, _, _⟩ := D.len
    have Z5 := P4.out.still T (by simp; omega)
    have Q5 := Lib.hid (Q4.out.st T (by simp))
    have E5 := Lib.hid (E4.out.st T (by simp))
    obtain ⟨er, hd, mk, ty, sq, st, so, ot, xb, pf, ex, pl, pd⟩ := R
    dsimp only at N E D h0 ⊢
    subst h0
    generalize ot.length = no at *
    generalize ex.length = ne at *
    generalize pl.length = np at *
    have z0 := hp_cell (Z5) 0
    have y0 := hp_frz (Z5) 0
    have z1 := hp_cell (Z5) 1
    have y1 := hp_frz (Z5) 1
    have z2 := hp_cell (Z5) 2
    have y2 := hp_frz (Z5) 2
    have z3 := hp_cell (Z5) 3
    have y3 := hp_frz (Z5) 3
    have z4 := hp_cell (Z5) 4
    have y4 := hp_frz (Z5) 4
    have z5 := hp_cell (Z5) 5
    have y5 := hp_frz (Z5) 5
    have z6 := hp_cell (Z5) 6
    have y6 := hp_frz (Z5) 6
    have z7 := hp_cell (Z5) 7
    have y7 := hp_frz (Z5) 7
    have z8 := hp_cell (Z5) 8
    have y8 := hp_frz (Z5) 8
    have z9 := hp_cell (Z5) 9
    have y9 := hp_frz (Z5) 9
    have z10 := hp_cell (Z5) 10
    have y10 := hp_frz (Z5) 10
    simp only [zC, rtpC, List.getElem?_toArray, List.getElem?_cons_zero, List.getElem?_cons_succ] at z0 z1 z2 z3 z4 z5 z6 z7 z8 z9 z10
    simp only [rtpC]
    have Z6 := Lib.hid (Z5.set11 rfl (.bool mk) (.int .u8 (ty : Nat)) (.int .u16 (sq : Nat)) (.int .u32 (st : Nat)) (.int .u32 (so : Nat)) (.slice so_ no co) (.bool xb) (.int .u16 (pf : Nat)) (.slice se ne ce) (.slice sp np cp) (.int .u8 (pd : Nat)))
    have TS := still_set11 w5 w.heap.size (.bool mk) (.int .u8 (ty : Nat)) (.int .u16 (sq : Nat)) (.int .u32 (st : Nat)) (.int .u32 (so : Nat)) (.slice so_ no co) (.bool xb) (.int .u16 (pf : Nat)) (.slice se ne ce) (.slice sp np cp) (.int .u8 (pd : Nat))
    have Q6 := Lib.hid (HpB.st Q5.out TS (by simp))
    have E6 := Lib.hid (HpB.st E5.out TS (by simp; omega))
    have T5 : Hid (BW w w5) := B5.out.stl T (by simp; omega)
    have T6 := Lib.hid (T5.out.stl TS (by simp))
    have N6 := Lib.hid ((N.up (Nat.le_of_lt (Nat.lt_of_le_of_lt (Nat.le_add_right _ 3) hz4))).still TS (fun k hk => by have := N.ge' k hk; simp; omega))
    have X6 := Lib.hid ((E.up (Nat.le_of_lt (Nat.lt_of_le_of_lt (Nat.le_add_right _ 3) hz4))).still TS (fun k hk => by have := E.ge' k hk; simp; omega))
    have D6 := Lib.hid ((D.up (Nat.le_of_lt (Nat.lt_of_le_of_lt (Nat.le_add_right _ 3) hz4))).still TS (fun k hk => by have := D.ge' k hk; simp; omega))
    have q0 := hp_cell Q5.out 0
    have q1 := hp_frz Q5.out 0
    replace Z5 := Lib.hid Z5
    replace N := Lib.hid N
    replace E := Lib.hid E
    replace D := Lib.hid D
    replace T := Lib.hid T
    replace TS := Lib.hid TS
    go_upto_region 4 with (fail)
    generalize (((((((((((w5.setCell ⟨w.heap.size, 0, none⟩ (.bool mk)).setCell ⟨w.heap.size, 1, none⟩ (.int .u8 (ty : Nat))).setCell ⟨w.heap.size, 2, none⟩ (.int .u16 (sq : Nat))).setCell ⟨w.heap.size, 3, none⟩ (.int .u32 (st : Nat))).setCell ⟨w.heap.size, 4, none⟩ (.int .u32 (so : Nat))).setCell ⟨w.heap.size, 5, none⟩ (.slice so_ no co)).setCell ⟨w.heap.size, 6, none⟩ (.bool xb)).setCell ⟨w.heap.size, 7, none⟩ (.int .u16 (pf : Nat))).setCell ⟨w.heap.size, 8, none⟩ (.slice se ne ce)).setCell ⟨w.heap.size, 9, none⟩ (.slice sp np cp)).setCell ⟨w.heap.size, 10, none⟩ (.int .u8 (pd : Nat))) = w6 at *
    have hq : w6.setCell ⟨w.heap.size + 1, 0, none⟩ (.int .i64 (hd : Nat)) = w6.setCell ⟨w.heap.size + 1, 0, none⟩ (.int .i64 (hd : Nat)) := rfl
    have TS := still_setCR w6 (w.heap.size + 1) 0 (.int .i64 (hd : Nat))
    have Z7 := Lib.hid (Z6.out.still TS (by simp))
    have Q7 : Hid (HpB (w6.setCell ⟨w.heap.size + 1, 0, none⟩ (.int .i64 (hd : Nat))) (w.heap.size + 1) (.cells #[.int .i64 (hd : Nat)] 3)) := hp_set Q6.out 0 _
    have E7 := Lib.hid (HpB.st E6.out TS (by simp))
    have T7 := Lib.hid (T6.out.stl TS (by simp))
    have N7 := Lib.hid (N6.out.still TS (fun k hk => by have := N.out.ge' k hk; simp; omega))
    have X7 := Lib.hid (X6.out.still TS (fun k hk => by have := E.out.ge' k hk; simp; omega))
    have D7 := Lib.hid (D6.out.still TS (fun k hk => by have := D.out.ge' k hk; simp; omega))
    have hge : ∀ k, ((Value.slice so_ no co).ownBlock = some k ∨ (Value.slice se ne ce).ownBlock = some k ∨ (Value.slice sp np cp).ownBlock = some k) → w.heap.size + 1 + 1 + 1 < k := fun k hk => by
      rcases hk with hk | hk | hk
      · have := N.out.ge' k hk; omega
      · have := E.out.ge' k hk; omega
      · have := D.out.ge' k hk; omega
    clear hq N6 X6 D6 Z6 Q6 E6 T6 TS q0 q1
    generalize w6.setCell ⟨w.heap.size + 1, 0, none⟩ (.int .i64 (hd : Nat)) = w7 at *
    clear Z5 Q5 E5 T5 TS N E D T
    clear z0 z1 z2 z3 z4 z5 z6 z7 z8 z9 z10 y0 y1 y2 y3 y4 y5 y6 y7 y8 y9 y10
    have l1 : ∀ x : LaterS [w.heap.size] w7, x.now.cell? ⟨w.heap.size + 1, 0, none⟩ = some (.int .i64 (hd : Nat)) := fun x => x.cell (hp_cell Q7.out 0) (by simp)
    refine wp_region_gg ([w.heap.size]) [2] [3] (by kernel_rfl) ?_
    refine hoist [] [2] (a1 := ?_) 0 rfl (by kernel_rfl) (.inl ⟨rfl, rfl⟩) rfl rfl rfl (fun x K hK => ?_) ?_
    rotate_left
    · refine qlR rfl (by rfl) rfl (fun w' hw => by subst hw; exact Z7.out.bw x.bw) (by simp only [Act.put, List.setIfInBounds_toArray, List.set_cons_succ, List.set_cons_zero]; rfl) ?_
      exact hK
    refine hoist ([w.heap.size]) [] (a1 := ?_) 1 rfl (by kernel_rfl) (.inr rfl) rfl rfl rfl (fun x K hK => ?_) ?_
    rotate_left
    · go_big_quiet_op
      exact hK
    refine effect 2 rfl (by kernel_rfl) (by kernel_rfl) rfl (fun x2 K hK => ?_)
    have ZX := Z7.out.bw x2.bw
    have z0 := hp_cell (ZX) 0
    have y0 := hp_frz (ZX) 0
    have z1 := hp_cell (ZX) 1
    have y1 := hp_frz (ZX) 1
    have z2 := hp_cell (ZX) 2
    have y2 := hp_frz (ZX) 2
    have z3 := hp_cell (ZX) 3
    have y3 := hp_frz (ZX) 3
    have z4 := hp_cell (ZX) 4
    have y4 := hp_frz (ZX) 4
    have z5 := hp_cell (ZX) 5
    have y5 := hp_frz (ZX) 5
    have z6 := hp_cell (ZX) 6
    have y6 := hp_frz (ZX) 6
    have z7 := hp_cell (ZX) 7
    have y7 := hp_frz (ZX) 7
    have z8 := hp_cell (ZX) 8
    have y8 := hp_frz (ZX) 8
    have z9 := hp_cell (ZX) 9
    have y9 := hp_frz (ZX) 9
    have z10 := hp_cell (ZX) 10
    have y10 := hp_frz (ZX) 10
    simp only [List.getElem?_toArray, List.getElem?_cons_zero, List.getElem?_cons_succ] at z0 z1 z2 z3 z4 z5 z6 z7 z8 z9 z10
    have TS := still_set11 x2.now w.heap.size (.bool mk) (.int .u8 (ty : Nat)) (.int .u16 (sq : Nat)) (.int .u32 (st : Nat)) (.int .u32 (so : Nat)) (.slice so_ no co) (.bool xb) (.int .u16 (pf : Nat)) (.slice se ne ce) (.slice sp np cp) (.int .u8 (pd : Nat))
    have Z8 := Lib.hid (ZX.set11 rfl (.bool mk) (.int .u8 (ty : Nat)) (.int .u16 (sq : Nat)) (.int .u32 (st : Nat)) (.int .u32 (so : Nat)) (.slice so_ no co) (.bool xb) (.int .u16 (pf : Nat)) (.slice se ne ce) (.slice sp np cp) (.int .u8 (pd : Nat)))
    have Q8 := Lib.hid (HpB.st (Q7.out.bw x2.bw) TS (by simp))
    have E8 := Lib.hid (HpB.st (E7.out.bw x2.bw) TS (by simp; omega))
    have T8 := Lib.hid ((T7.out.trans x2.bw).stl TS (by simp))
    have N8 := Lib.hid ((N7.out.bw x2.bw).still TS (fun k hk => by have := hge k (.inl hk); simp; omega))
    have X8 := Lib.hid ((X7.out.bw x2.bw).still TS (fun k hk => by have := hge k (.inr (.inl hk)); simp; omega))
    have D8 := Lib.hid ((D7.out.bw x2.bw).still TS (fun k hk => by have := hge k (.inr (.inr hk)); simp; omega))
    go_simp
    refine hK _ _ TS ?_
    clear hK K ZX TS l1
    clear z0 z1 z2 z3 z4 z5 z6 z7 z8 z9 z10 y0 y1 y2 y3 y4 y5 y6 y7 y8 y9 y10
    generalize (((((((((((x2.now.setCell ⟨w.heap.size, 0, none⟩ (.bool mk)).setCell ⟨w.heap.size, 1, none⟩ (.int .u8 (ty : Nat))).setCell ⟨w.heap.size, 2, none⟩ (.int .u16 (sq : Nat))).setCell ⟨w.heap.size, 3, none⟩ (.int .u32 (st : Nat))).setCell ⟨w.heap.size, 4, none⟩ (.int .u32 (so : Nat))).setCell ⟨w.heap.size, 5, none⟩ (.slice so_ no co)).setCell ⟨w.heap.size, 6, none⟩ (.bool xb)).setCell ⟨w.heap.size, 7, none⟩ (.int .u16 (pf : Nat))).setCell ⟨w.heap.size, 8, none⟩ (.slice se ne ce)).setCell ⟨w.heap.size, 9, none⟩ (.slice sp np cp)).setCell ⟨w.heap.size, 10, none⟩ (.int .u8 (pd : Nat))) = w8 at *
    try simp only [Act.put, List.setIfInBounds_toArray, List.set_cons_succ, List.set_cons_zero]
    refine tail 3 rfl (by kernel_rfl) rfl (fun xr => ?_)
    simp only [List.drop_succ_cons, List.drop_zero]
    have ZX := Z8.out.bw xr.bw
    have QX := Q8.out.bw xr.bw
    have EX := E8.out.bw xr.bw
    have q0 := hp_cell QX 0
    have q1 := hp_frz QX 0
    have r0 := hp_cell EX 0
    have r1 := hp_frz EX 0
    simp only [List.getElem?_toArray, List.getElem?_cons_zero] at q0 r0
    have T1 := still_setCR xr.now (w.heap.size + 1) 0 (.int .i64 (hd : Nat))
    have T2 := still_setCR (xr.now.setCell ⟨w.heap.size + 1, 0, none⟩ (.int .i64 (hd : Nat))) (w.heap.size + 1 + 1) 0 (.int .i64 0)
    have Z9 := Lib.hid ((ZX.still T1 (by simp)).still T2 (by simp; omega))
    have Q9 : Hid (HpB ((xr.now.setCell ⟨w.heap.size + 1, 0, none⟩ (.int .i64 (hd : Nat))).setCell ⟨w.heap.size + 1 + 1, 0, none⟩ (.int .i64 0)) (w.heap.size + 1) (.cells #[.int .i64 (hd : Nat)] 3)) := HpB.st (hp_set QX 0 _) T2 (by simp)
    have E9 : Hid (HpB ((xr.now.setCell ⟨w.heap.size + 1, 0, none⟩ (.int .i64 (hd : Nat))).setCell ⟨w.heap.size + 1 + 1, 0, none⟩ (.int .i64 0)) (w.heap.size + 1 + 1) (.cells #[.int .i64 0] 29)) := hp_set (HpB.st EX T1 (by simp)) 0 _
    have T9 := Lib.hid (((T8.out.trans xr.bw).stl T1 (by simp)).stl T2 (by simp; omega))
    have N9 := Lib.hid (((N8.out.bw xr.bw).still T1 (fun k hk => by have := hge k (.inl hk); simp; omega)).still T2 (fun k hk => by have := hge k (.inl hk); simp; omega))
    have X9 := Lib.hid (((X8.out.bw xr.bw).still T1 (fun k hk => by have := hge k (.inr (.inl hk)); simp; omega)).still T2 (fun k hk => by have := hge k (.inr (.inl hk)); simp; omega))
    have D9 := Lib.hid (((D8.out.bw xr.bw).still T1 (fun k hk => by have := hge k (.inr (.inr hk)); simp; omega)).still T2 (fun k hk => by have := hge k (.inr (.inr hk)); simp; omega))
    replace ZX := Lib.hid ZX
    replace QX := Lib.hid QX
    replace EX := Lib.hid EX
    replace T1 := Lib.hid T1
    replace T2 := Lib.hid T2
    clear hge
    go_wp2_with fail
    generalize (xr.now.setCell ⟨w.heap.size + 1, 0, none⟩ (.int .i64 (hd : Nat))).setCell ⟨w.heap.size + 1 + 1, 0, none⟩ (.int .i64 0) = w9 at *
    refine leaves_cons (f := 92) (args := #[.pointer (some ⟨w.heap.size, 0, none⟩), .pointer (some ⟨w.heap.size + 1, 0, none⟩), .pointer (some ⟨w.heap.size + 1 + 1, 0, none⟩)]) (by simp) (by simp [go_sem]) ?_
    refine (catch_idle _ _ _ _).mono ?_
    rintro e u' w'' ⟨rfl, rfl, rfl⟩
    have z0 := hp_cell (Z9.out) 0
    have z1 := hp_cell (Z9.out) 1
    have z2 := hp_cell (Z9.out) 2
    have z3 := hp_cell (Z9.out) 3
    have z4 := hp_cell (Z9.out) 4
    have z5 := hp_cell (Z9.out) 5
    have z6 := hp_cell (Z9.out) 6
    have z7 := hp_cell (Z9.out) 7
    have z8 := hp_cell (Z9.out) 8
    have z9 := hp_cell (Z9.out) 9
    have z10 := hp_cell (Z9.out) 10
    simp only [List.getElem?_toArray, List.getElem?_cons_zero, List.getElem?_cons_succ] at z0 z1 z2 z3 z4 z5 z6 z7 z8 z9 z10
    have q0 := hp_cell Q9.out 0
    have r0 := hp_cell E9.out 0
    simp only [List.getElem?_toArray, List.getElem?_cons_zero] at q0 r0
    refine ⟨.tuple #[.agg #[.bool mk, .int .u8 (ty : Nat), .int .u16 (sq : Nat), .int .u32 (st : Nat), .int .u32 (so : Nat), .slice so_ no co, .bool xb, .int .u16 (pf : Nat), .slice se ne ce, .slice sp np cp, .int .u8 (pd : Nat)], .int .i64 (hd : Nat), .int .i64 0], by simp [results, Try.results54, go_sem, z0, z1, z2, z3, z4, z5, z6, z7, z8, z9, z10, q0, r0], _, rfl, ⟨_, _, _, rfl, ?_, ?_, ?_⟩, T9.out⟩
    · have hl : ot.length = no := by simpa [nz] using N9.out.1
      dsimp only
      rw [hl]; exact N9.out
    · dsimp only
      rw [X9.out.1]; exact X9.out
    · dsimp only
      rw [D9.out.1]; exact D9.out
  · dsimp only [gaveUp]
    have Z5 := P4.out.still T (by simp; omega)
    have Q5 := Q4.out.st T (by simp)
    have E5 := E4.out.st T (by simp)
    have T5 := Lib.hid (B5.out.stl T (by simp; omega))
    have hR := her.out h0
    replace Z5 := Lib.hid Z5
    replace Q5 := Lib.hid Q5
    replace E5 := Lib.hid E5
    replace T := Lib.hid T
    replace hR := Lib.hid hR
    refine leaves_cons (f := 92) (args := #[.pointer (some ⟨w.heap.size, 0, none⟩), .pointer (some ⟨w.heap.size + 1, 0, none⟩), .pointer (some ⟨w.heap.size + 1 + 1, 0, none⟩)]) (by simp) (by simp [go_sem]) ?_
    refine (catch_panicking _ _ _ R.1 [] _ Z5.out Q5.out E5.out (by omega) (by omega) (by omega)).mono ?_
    rintro e u' w'' ⟨rfl, rfl, Z9, Q9, E9, TS⟩
    have z0 := hp_cell (Z9) 0
    have z1 := hp_cell (Z9) 1
    have z2 := hp_cell (Z9) 2
    have z3 := hp_cell (Z9) 3
    have z4 := hp_cell (Z9) 4
    have z5 := hp_cell (Z9) 5
    have z6 := hp_cell (Z9) 6
    have z7 := hp_cell (Z9) 7
    have z8 := hp_cell (Z9) 8
    have z9 := hp_cell (Z9) 9
    have z10 := hp_cell (Z9) 10
    simp only [zC, rtpC, List.getElem?_toArray, List.getElem?_cons_zero, List.getElem?_cons_succ] at z0 z1 z2 z3 z4 z5 z6 z7 z8 z9 z10
    have q0 := hp_cell Q9 0
    have r0 := hp_cell E9 0
    simp only [List.getElem?_toArray, List.getElem?_cons_zero] at q0 r0
    have T9 := T5.out.stl TS (by simp; omega)
    refine ⟨.tuple #[.agg #[.bool false, .int .u8 0, .int .u16 0, .int .u32 0, .int .u32 0, .slice none 0 0, .bool false, .int .u16 0, .slice none 0 0, .slice none 0 0, .int .u8 0], .int .i64 0, .int .i64 (R.1 : Nat)], by simp [results, Try.results54, go_sem, z0, z1, z2, z3, z4, z5, z6, z7, z8, z9, z10, q0, r0], _, by rw [hR.out]; rfl, by rw [hR.out]; exact RtpO.zero _ _, T9⟩
end Go.Proofs.Ytgiajnfmjpdodaa
