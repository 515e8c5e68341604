/- rtp.Read, rtp.Head. No condition but the sizes'. -/
import Derived.Test.YtgiajnfmjpdodaaRtF
namespace Go.Proofs.Ytgiajnfmjpdodaa
open Go.RowKit

def ReadPost2 (R : Nat × Nat × RtpD) (w : World) (e : Ending) (w' : World) : Prop := ∃ c, e = .returned (.tuple #[.agg c, .int .i64 (R.1 : Nat)]) ∧ RtpO w' w.heap.size c R.2.2 ∧ BW w w'
/-- A packet as a value: its cells in full. -/
theorem RtpO.open {w : World} {base : Nat} {c : Array Value} {d : RtpD} (h : RtpO w base c d) :
    ∃ so_ co se ce sp cp, c = rtpC d.marker d.typ d.seq d.stamp d.source (.slice so_ d.others.length co) d.ext d.profile (.slice se d.extra.length ce) (.slice sp d.payload.length cp) d.pad ∧ NO w base 25 .u32 (.slice so_ d.others.length co) d.others.length (nz d.others) ∧ OB w base 5 (.slice se d.extra.length ce) d.extra.length d.extra ∧ OB w base 5 (.slice sp d.payload.length cp) d.payload.length d.payload := by
  obtain ⟨ov, ev, pv, rfl, h1, h2, h3⟩ := h
  obtain ⟨so_, co, rfl, _, _⟩ := h1.len
  obtain ⟨se, ce, rfl, _, _⟩ := h2.len
  obtain ⟨sp, cp, rfl, _, _⟩ := h3.len
  exact ⟨so_, co, se, ce, sp, cp, rfl, h1, h2, h3⟩
def RtpO.blk (c : Array Value) (k : Nat) : Prop := ∃ v ∈ c, v.ownBlock = some k
theorem RtpO.ge {w : World} {base : Nat} {c : Array Value} {d : RtpD} (h : RtpO w base c d) (k : Nat) (hk : RtpO.blk c k) : base ≤ k := by
  obtain ⟨ov, ev, pv, rfl, h1, h2, h3⟩ := h
  obtain ⟨v, hv, hk⟩ := hk
  simp only [rtpC, List.mem_toArray, List.mem_cons, List.not_mem_nil, or_false] at hv
  rcases hv with rfl | rfl | rfl | rfl | rfl | rfl | rfl | rfl | rfl | rfl | rfl <;> first
    | (cases hk; done)
    | exact h1.ge' k hk
    | exact h2.ge' k hk
    | exact h3.ge' k hk
theorem RtpO.still' {w w' : World} {base : Nat} {c : Array Value} {d : RtpD} (h : RtpO w base c d) {S : List Nat} (hs : Still S w w') (hS : ∀ k ∈ S, ¬ RtpO.blk c k) : RtpO w' base c d := by
  obtain ⟨ov, ev, pv, rfl, h1, h2, h3⟩ := h
  exact ⟨ov, ev, pv, rfl, h1.still hs (fun k hk hm => hS k hm ⟨ov, by simp [rtpC], hk⟩), h2.still hs (fun k hk hm => hS k hm ⟨ev, by simp [rtpC], hk⟩), h3.still hs (fun k hk hm => hS k hm ⟨pv, by simp [rtpC], hk⟩)⟩
theorem RtpO.still {w w' : World} {base : Nat} {c : Array Value} {d : RtpD} (h : RtpO w base c d) {S : List Nat} (hs : Still S w w') (hS : ∀ k ∈ S, k < base) : RtpO w' base c d := by
  obtain ⟨ov, ev, pv, rfl, h1, h2, h3⟩ := h
  exact ⟨ov, ev, pv, rfl, h1.still hs (fun k hk hm => by have := hS k hm; have := h1.ge' k hk; omega), h2.still hs (fun k hk hm => by have := hS k hm; have := h2.ge' k hk; omega), h3.still hs (fun k hk hm => by have := hS k hm; have := h3.ge' k hk; omega)⟩

set_option maxRecDepth 100000 in
set_option maxHeartbeats 8000000 in
theorem Read_any (v : Value) (len : Nat) (l : List Nat) (hlen : len ≤ 1000000000000) (w : World) (hv : SB w v len l) :
    Calls Try.prog 17 #[v] w (ReadPost2 (readN l) w) := by
  have hpk := fun wz hv => Lib.hid (read_any v len l hlen wz hv)
  generalize readN l = R at *
  obtain ⟨sa, cap, rfl, hcap, hm⟩ := hv.len
  have Z1 : Hid (PkV (w.alloc (.cells #[.bool false, .int .u8 0, .int .u16 0, .int .u32 0, .int .u32 0, .slice none 0 0, .bool false, .int .u16 0, .slice none 0 0, .slice none 0 0, .int .u8 0] 28)) w.heap.size zC) := HpB.new w _
  have B1 : Hid (BW w (w.alloc (.cells #[.bool false, .int .u8 0, .int .u16 0, .int .u32 0, .int .u32 0, .slice none 0 0, .bool false, .int .u16 0, .slice none 0 0, .slice none 0 0, .int .u8 0] 28))) := (BW.refl w).alloc
  have hz1 : w.heap.size < (w.alloc (.cells #[.bool false, .int .u8 0, .int .u16 0, .int .u32 0, .int .u32 0, .slice none 0 0, .bool false, .int .u16 0, .slice none 0 0, .slice none 0 0, .int .u8 0] 28)).heap.size := by simp
  replace hv := Lib.hid hv
  go_enter Try.func17, Try.ntmps17
  go_upto_region 1 with (fail)
  generalize w.alloc (.cells #[.bool false, .int .u8 0, .int .u16 0, .int .u32 0, .int .u32 0, .slice none 0 0, .bool false, .int .u16 0, .slice none 0 0, .slice none 0 0, .int .u8 0] 28) = w1 at *
  have V1 := Lib.hid (hv.out.bw B1.out)
  go_wp2_with fail
  refine Calls.mono (hpk w1 V1.out).out ?_
  rintro e w2 ⟨c, rfl, O, hb⟩
  obtain ⟨so_, co, se, ce, sp, cp, rfl, -, -, -⟩ := O.open
  obtain ⟨er, hd, d⟩ := R
  dsimp only at O ⊢
  have Z2 := Z1.out.bw hb
  have B2 := Lib.hid (B1.out.trans hb)
  generalize d.others.length = no at *
  generalize d.extra.length = ne at *
  generalize d.payload.length = np at *
  obtain ⟨mk, ty, sq, st, so, ot, xb, pf, ex, pl, pd⟩ := d
  simp only [rtpC] at O ⊢
  have B3 : BW w2 (w2.alloc (.cells #[.bool mk, .int .u8 (ty : Nat), .int .u16 (sq : Nat), .int .u32 (st : Nat), .int .u32 (so : Nat), .slice so_ no co, .bool xb, .int .u16 (pf : Nat), .slice se ne ce, .slice sp np cp, .int .u8 (pd : Nat)] 28)) := (BW.refl _).alloc
  have P3 : Hid (PkV (w2.alloc (.cells #[.bool mk, .int .u8 (ty : Nat), .int .u16 (sq : Nat), .int .u32 (st : Nat), .int .u32 (so : Nat), .slice so_ no co, .bool xb, .int .u16 (pf : Nat), .slice se ne ce, .slice sp np cp, .int .u8 (pd : Nat)] 28)) w2.heap.size #[.bool mk, .int .u8 (ty : Nat), .int .u16 (sq : Nat), .int .u32 (st : Nat), .int .u32 (so : Nat), .slice so_ no co, .bool xb, .int .u16 (pf : Nat), .slice se ne ce, .slice sp np cp, .int .u8 (pd : Nat)]) := HpB.new w2 _
  have Z3 := Z2.bw B3
  have O3 := Lib.hid (O.bw B3)
  have hz2 := HpB.lt Z2
  replace B2 := Lib.hid (B2.out.trans B3)
  replace Z2 := Lib.hid Z2
  replace O := Lib.hid O
  replace Z3 := Lib.hid Z3
  clear B3 hb
  go_upto_region 2 with (fail)
  generalize w2.alloc (.cells #[.bool mk, .int .u8 (ty : Nat), .int .u16 (sq : Nat), .int .u32 (st : Nat), .int .u32 (so : Nat), .slice so_ no co, .bool xb, .int .u16 (pf : Nat), .slice se ne ce, .slice sp np cp, .int .u8 (pd : Nat)] 28) = w3 at *
  have z0 := hp_cell (Z3.out) 0
  have y0 := hp_frz (Z3.out) 0
  have z1 := hp_cell (Z3.out) 1
  have y1 := hp_frz (Z3.out) 1
  have z2 := hp_cell (Z3.out) 2
  have y2 := hp_frz (Z3.out) 2
  have z3 := hp_cell (Z3.out) 3
  have y3 := hp_frz (Z3.out) 3
  have z4 := hp_cell (Z3.out) 4
  have y4 := hp_frz (Z3.out) 4
  have z5 := hp_cell (Z3.out) 5
  have y5 := hp_frz (Z3.out) 5
  have z6 := hp_cell (Z3.out) 6
  have y6 := hp_frz (Z3.out) 6
  have z7 := hp_cell (Z3.out) 7
  have y7 := hp_frz (Z3.out) 7
  have z8 := hp_cell (Z3.out) 8
  have y8 := hp_frz (Z3.out) 8
  have z9 := hp_cell (Z3.out) 9
  have y9 := hp_frz (Z3.out) 9
  have z10 := hp_cell (Z3.out) 10
  have y10 := hp_frz (Z3.out) 10
  simp only [zC, rtpC, List.getElem?_toArray, List.getElem?_cons_zero, List.getElem?_cons_succ] at z0 z1 z2 z3 z4 z5 z6 z7 z8 z9 z10
  have k0 := hp_cell (P3.out) 0
  have k1 := hp_cell (P3.out) 1
  have k2 := hp_cell (P3.out) 2
  have k3 := hp_cell (P3.out) 3
  have k4 := hp_cell (P3.out) 4
  have k5 := hp_cell (P3.out) 5
  have k6 := hp_cell (P3.out) 6
  have k7 := hp_cell (P3.out) 7
  have k8 := hp_cell (P3.out) 8
  have k9 := hp_cell (P3.out) 9
  have k10 := hp_cell (P3.out) 10
  simp only [List.getElem?_toArray, List.getElem?_cons_zero, List.getElem?_cons_succ] at k0 k1 k2 k3 k4 k5 k6 k7 k8 k9 k10
  go_wp2_with fail
  clear z0 z1 z2 z3 z4 z5 z6 z7 z8 z9 z10 y0 y1 y2 y3 y4 y5 y6 y7 y8 y9 y10 k0 k1 k2 k3 k4 k5 k6 k7 k8 k9 k10
  have TS := still_set11 w3 w.heap.size (.bool mk) (.int .u8 (ty : Nat)) (.int .u16 (sq : Nat)) (.int .u32 (st : Nat)) (.int .u32 (so : Nat)) (.slice so_ no co) (.bool xb) (.int .u16 (pf : Nat)) (.slice se ne ce) (.slice sp np cp) (.int .u8 (pd : Nat))
  have Z4 := Z3.out.set11 rfl (.bool mk) (.int .u8 (ty : Nat)) (.int .u16 (sq : Nat)) (.int .u32 (st : Nat)) (.int .u32 (so : Nat)) (.slice so_ no co) (.bool xb) (.int .u16 (pf : Nat)) (.slice se ne ce) (.slice sp np cp) (.int .u8 (pd : Nat))
  have O4 := (O3.out.still TS (by simpa using hz1)).up (Nat.le_of_lt hz1)
  have T4 := B2.out.stl TS (by simp)
  have z0 := hp_cell (Z4) 0
  have z1 := hp_cell (Z4) 1
  have z2 := hp_cell (Z4) 2
  have z3 := hp_cell (Z4) 3
  have z4 := hp_cell (Z4) 4
  have z5 := hp_cell (Z4) 5
  have z6 := hp_cell (Z4) 6
  have z7 := hp_cell (Z4) 7
  have z8 := hp_cell (Z4) 8
  have z9 := hp_cell (Z4) 9
  have z10 := hp_cell (Z4) 10
  simp only [List.getElem?_toArray, List.getElem?_cons_zero, List.getElem?_cons_succ] at z0 z1 z2 z3 z4 z5 z6 z7 z8 z9 z10
  replace Z4 := Lib.hid Z4
  replace TS := Lib.hid TS
  replace O4 := Lib.hid O4
  replace T4 := Lib.hid T4
  exact bodyPost_ret (v := .tuple #[.agg #[.bool mk, .int .u8 (ty : Nat), .int .u16 (sq : Nat), .int .u32 (st : Nat), .int .u32 (so : Nat), .slice so_ no co, .bool xb, .int .u16 (pf : Nat), .slice se ne ce, .slice sp np cp, .int .u8 (pd : Nat)], .int .i64 (er : Nat)]) (by simp [results, Try.results17, go_sem, z0, z1, z2, z3, z4, z5, z6, z7, z8, z9, z10]) rfl ⟨_, rfl, O4.out, T4.out⟩

set_option maxRecDepth 100000 in
set_option maxHeartbeats 8000000 in
theorem Head_any (v : Value) (len : Nat) (l : List Nat) (hlen : len ≤ 1000000000000) (w : World) (hv : SB w v len l) :
    Calls Try.prog 20 #[v] w fun e w' => e = .returned (.tuple #[.int .i64 ((readN l).2.1 : Nat), .bool (decide ((readN l).1 = 0))]) ∧ BW w w' := by
  have hpk := fun wz hv => Lib.hid (read_any v len l hlen wz hv)
  generalize readN l = R at *
  obtain ⟨sa, cap, rfl, hcap, hm⟩ := hv.len
  replace hv := Lib.hid hv
  go_enter Try.func20, Try.ntmps20
  go_wp2_with fail
  refine Calls.mono (hpk w hv.out).out ?_
  rintro e w2 ⟨c, rfl, O, hb⟩
  obtain ⟨so_, co, se, ce, sp, cp, rfl, -, -, -⟩ := O.open
  obtain ⟨er, hd, d⟩ := R
  dsimp only at O ⊢
  generalize d.others.length = no at *
  generalize d.extra.length = ne at *
  generalize d.payload.length = np at *
  simp only [rtpC] at O ⊢
  replace O := Lib.hid O
  replace hb := Lib.hid hb
  by_cases h0 : er = 0
  · subst h0
    go_wp2_with fail
    go_ret2
    exact ⟨by simp, hb.out.alloc⟩
  · have d0 : ((er : Int) == 0) = false := by simp; omega
    go_wp2_with fail
    go_ret2
    exact ⟨by simp, hb.out.alloc⟩
end Go.Proofs.Ytgiajnfmjpdodaa
