/- rtp's extension of a packet. No condition. -/
import Derived.Test.YtgiajnfmjpdodaaRtB
namespace Go.Proofs.Ytgiajnfmjpdodaa
open Go.RowKit

/-- A packet's cells. -/
def rtpC (mk : Bool) (ty sq st so : Nat) (ov : Value) (ex : Bool) (pf : Nat) (ev pv : Value) (pd : Nat) : Array Value :=
  #[.bool mk, .int .u8 (ty : Nat), .int .u16 (sq : Nat), .int .u32 (st : Nat), .int .u32 (so : Nat), ov, .bool ex, .int .u16 (pf : Nat), ev, pv, .int .u8 (pd : Nat)]
/-- A packet as a variable. -/
def PkV (w : World) (p : Nat) (c : Array Value) : Prop := HpB w p (.cells c 28)
theorem PkV.bw {w w' : World} {p : Nat} {c : Array Value} (h : PkV w p c) (hb : BW w w') : PkV w' p c := HpB.bw h hb
theorem PkV.still {w w' : World} {p : Nat} {c : Array Value} (h : PkV w p c) {S : List Nat} (hs : Still S w w') (hg : p ∉ S) : PkV w' p c := hp_st hs h hg
theorem PkV.set {w : World} {p : Nat} {c : Array Value} (h : PkV w p c) (i : Nat) (u : Value) : PkV (w.setCell ⟨p, i, none⟩ u) p (c.setIfInBounds i u) := hp_set h i u
theorem PkV.cell {w : World} {p : Nat} {c : Array Value} (h : PkV w p c) (i : Nat) : w.cell? ⟨p, i, none⟩ = c[i]? := hp_cell h i
theorem PkV.frz {w : World} {p : Nat} {c : Array Value} (h : PkV w p c) (i : Nat) : w.frozen? ⟨p, i, none⟩ = false := hp_frz h i
theorem Still.sub {S S' : List Nat} {w w' : World} (h : Still S w w') (hs : ∀ k ∈ S, k ∈ S') : Still S' w w' := h.weaken hs

set_option maxRecDepth 100000 in
set_option maxHeartbeats 8000000 in
theorem rext_ok (g p at_ words : Nat) (l : List Nat) (v : Value) (len : Nat) (mk : Bool) (ty sq st so : Nat) (ov : Value) (ex : Bool) (pf : Nat) (ev pv : Value) (pd : Nat)
    (hw2 : nm l (at_ + 2) 2 = words) (h255 : words ≤ 255) (hat : at_ + 4 + 4 * words ≤ len) (hlen : len ≤ 1000000000000) (hby : ByL l) (w : World) (hr : Rdr w g v at_) (hp : PkV w p (rtpC mk ty sq st so ov ex pf ev pv pd)) (hv : SB w v len l) (hg : ∀ k, v.ownBlock = some k → k ≠ g ∧ k ≠ p) :
    Calls Try.prog 113 #[.pointer (some ⟨g, 0, none⟩), .pointer (some ⟨p, 0, none⟩)] w fun e w' => e = .returned (.tuple #[]) ∧ ∃ v', PkV w' p (rtpC mk ty sq st so ov true (nm l at_ 2) v' pv pd) ∧ OB w' w.heap.size 5 v' (4 * words) ((l.drop (at_ + 4)).take (4 * words)) ∧ Rdr w' g v (at_ + 4 + 4 * words) ∧ Still [g, p] w w' := by
  have hgp : g ≠ p := hp_ne hr hp (by decide)
  have hx := nm_lt l hby at_ 2
  have c1 := fun wz hr hv => Lib.hid (rnum_ok' g at_ 2 l v len (by decide) (by decide) (by omega) hlen wz hr hv)
  have c2 := fun wz hr hv => Lib.hid (rnum_ok' g (at_ + 2) 2 l v len (by decide) (by decide) (by omega) hlen wz hr hv)
  have c3 := fun wz hr hv hg => Lib.hid (rtake_ok g (at_ + 2 + 2) (4 * words) l v len (by omega) hlen wz hr hv hg)
  rw [hw2] at c2
  generalize hX : nm l at_ 2 = X at *
  replace hw2 := Lib.hid hw2
  replace hX := Lib.hid hX
  have hXi : (X : Int) ≤ 65535 := by omega
  have hWi : (words : Int) ≤ 255 := by omega
  replace hr := Lib.hid hr
  replace hp := Lib.hid hp
  replace hv := Lib.hid hv
  go_enter Try.func113, Try.ntmps113
  go_wp2_with fail
  refine Calls.mono (c1 w hr.out hv.out).out ?_
  rintro e w1 ⟨rfl, R1, T1⟩
  have V1 := Lib.hid (hv.out.still T1 (fun k hk => by simpa using (hg k hk).1))
  have P1 := hp.out.still T1 (by simpa using hgp.symm)
  have f6 := P1.frz 6
  have f7 := P1.frz 7
  have e6 : w1.cell? ⟨p, 6, none⟩ = some (.bool ex) := P1.cell 6
  have e7 : w1.cell? ⟨p, 7, none⟩ = some (.int .u16 (pf : Nat)) := P1.cell 7
  have P2 : Hid (PkV ((w1.setCell ⟨p, 6, none⟩ (.bool true)).setCell ⟨p, 7, none⟩ (.int .u16 (X : Nat))) p (rtpC mk ty sq st so ov true X ev pv pd)) := (P1.set 6 (.bool true)).set 7 (.int .u16 (X : Nat))
  have T2a : Still [p] w1 ((w1.setCell ⟨p, 6, none⟩ (.bool true)).setCell ⟨p, 7, none⟩ (.int .u16 (X : Nat))) := (still_setCR w1 p 6 _).trans (still_setCR _ p 7 _)
  have T2 := Lib.hid ((T1.sub (S' := [g, p]) (by simp)).trans (T2a.sub (by simp)))
  have R2 := Lib.hid (R1.still T2a (by simpa using hgp))
  have V2 := Lib.hid (V1.out.still T2a (fun k hk => by simpa using (hg k hk).2))
  replace P1 := Lib.hid P1
  replace R1 := Lib.hid R1
  replace T1 := Lib.hid T1
  replace T2a := Lib.hid T2a
  dsimp only
  go_upto_region 1 with (fail)
  generalize (w1.setCell ⟨p, 6, none⟩ (.bool true)).setCell ⟨p, 7, none⟩ (.int .u16 (X : Nat)) = w2 at *
  clear P1 R1 T1 T2a f6 f7 e6 e7 c1
  go_wp2_with fail
  refine Calls.mono (c2 w2 R2.out V2.out).out ?_
  rintro e w3 ⟨rfl, R3, T3⟩
  have V3 := Lib.hid (V2.out.still T3 (fun k hk => by simpa using (hg k hk).1))
  have P3 := Lib.hid (P2.out.still T3 (by simpa using hgp.symm))
  replace T3 := Lib.hid (T2.out.trans (T3.sub (by simp)))
  replace R3 := Lib.hid R3
  clear c2 R2 V2 P2 T2
  dsimp only
  go_upto_region 2 with (fail)
  obtain ⟨sa, cap, rfl, hcap, hm⟩ := V3.out.len
  unfold maxLen at hm
  obtain ⟨c0, c1', _⟩ := R3.out.cells
  have l0 : ∀ x : LaterS [] w3, x.now.cell? ⟨g, 0, none⟩ = some (.slice sa len cap) := fun x => x.cell c0 (by simp)
  have l1 : ∀ x : LaterS [] w3, x.now.cell? ⟨g, 1, none⟩ = some (.int .i64 (at_ + 2 + 2 : Nat)) := fun x => x.cell c1' (by simp)
  have q0 : IntKind.i64.wrap (4 * (words : Int)) = 4 * (words : Int) := IntWalk.i64_in _ (by omega)
  have q1 : IntKind.i64.wrap ((len : Int) - ((at_ + 2 + 2 : Nat) : Int)) = (len : Int) - ((at_ + 2 + 2 : Nat) : Int) := IntWalk.i64_in _ (by omega)
  have q2 : decide (4 * (words : Int) ≤ (len : Int) - ((at_ + 2 + 2 : Nat) : Int)) = true := by simp; omega
  clear c0 c1'
  generalize hA : at_ + 2 + 2 = A at *
  replace hA := Lib.hid hA
  refine wp_region_gg [] [] [13] (by kernel_rfl) ?_
  refine hoist [] [] (a1 := ?_) 0 rfl (by kernel_rfl) (.inl ⟨rfl, rfl⟩) rfl rfl rfl (fun x K hK => ?_) ?_
  rotate_left
  · go_big_quiet_op
    exact hK
  refine hoist [] [] (a1 := ?_) 1 rfl (by kernel_rfl) (.inl ⟨rfl, rfl⟩) rfl rfl rfl (fun x K hK => ?_) ?_
  rotate_left
  · go_big_quiet_op
    exact hK
  refine hoist [] [] (a1 := ?_) 2 rfl (by kernel_rfl) (.inl ⟨rfl, rfl⟩) rfl rfl rfl (fun x K hK => ?_) ?_
  rotate_left
  · go_big_quiet_op
    exact hK
  refine hoist [] [] (a1 := ?_) 3 rfl (by kernel_rfl) (.inl ⟨rfl, rfl⟩) rfl rfl rfl (fun x K hK => ?_) ?_
  rotate_left
  · go_big_quiet_op
    exact hK
  refine hoist [] [] (a1 := ?_) 4 rfl (by kernel_rfl) (.inl ⟨rfl, rfl⟩) rfl rfl rfl (fun x K hK => ?_) ?_
  rotate_left
  · go_big_quiet_op
    exact hK
  refine hoist [] [] (a1 := ?_) 5 rfl (by kernel_rfl) (.inl ⟨rfl, rfl⟩) rfl rfl rfl (fun x K hK => ?_) ?_
  rotate_left
  · go_big_quiet_op
    exact hK
  refine hoist [] [] (a1 := ?_) 6 rfl (by kernel_rfl) (.inl ⟨rfl, rfl⟩) rfl rfl rfl (fun x K hK => ?_) ?_
  rotate_left
  · go_big_quiet_op
    exact hK
  refine hoist [] [] (a1 := ?_) 7 rfl (by kernel_rfl) (.inl ⟨rfl, rfl⟩) rfl rfl rfl (fun x K hK => ?_) ?_
  rotate_left
  · go_big_quiet_op
    exact hK
  refine hoist [] [] (a1 := ?_) 8 rfl (by kernel_rfl) (.inl ⟨rfl, rfl⟩) rfl rfl rfl (fun x K hK => ?_) ?_
  rotate_left
  · go_big_quiet_op
    exact hK
  refine hoist [] [] (a1 := ?_) 9 rfl (by kernel_rfl) (.inl ⟨rfl, rfl⟩) rfl rfl rfl (fun x K hK => ?_) ?_
  rotate_left
  · go_big_quiet_op
    exact hK
  refine hoist [] [] (a1 := ?_) 10 rfl (by kernel_rfl) (.inl ⟨rfl, rfl⟩) rfl rfl rfl (fun x K hK => ?_) ?_
  rotate_left
  · go_big_quiet_op
    exact hK
  refine hoist [] [] (a1 := ?_) 11 rfl (by kernel_rfl) (.inl ⟨rfl, rfl⟩) rfl rfl rfl (fun x K hK => ?_) ?_
  rotate_left
  · go_big_quiet_op
    exact hK
  refine hoist [] [] (a1 := ?_) 12 rfl (by kernel_rfl) (.inl ⟨rfl, rfl⟩) rfl rfl rfl (fun x K hK => ?_) ?_
  rotate_left
  · go_big_quiet_op
    exact hK
  refine tail 13 rfl (by kernel_rfl) rfl (fun xr => ?_)
  simp only [List.drop_succ_cons, List.drop_zero]
  clear q0 q1 q2 l0 l1
  go_wp2_with fail
  refine Calls.mono (must_ok 2 xr.now) ?_
  rintro e w' ⟨rfl, rfl⟩
  dsimp only
  go_wp2_with fail
  refine Calls.mono (must_ok 3 xr.now) ?_
  rintro e w' ⟨rfl, rfl⟩
  dsimp only
  have R4 := R3.out.bw xr.bw
  have V4 := V3.out.bw xr.bw
  have T4 := Lib.hid (T3.out.trans (xr.bw.still _))
  have P4 := Lib.hid (P3.out.bw xr.bw)
  go_wp2_with fail
  refine Calls.mono (c3 xr.now R4 V4 (fun k hk => (hg k hk).1)).out ?_
  rintro e w5 ⟨v5, rfl, O5, R5, T5⟩
  have P5 := P4.out.still T5 (by simpa using hgp.symm)
  have e8 : w5.cell? ⟨p, 8, none⟩ = some ev := P5.cell 8
  have f8 := P5.frz 8
  have P6 : Hid (PkV (w5.setCell ⟨p, 8, none⟩ v5) p (rtpC mk ty sq st so ov true X v5 pv pd)) := P5.set 8 v5
  obtain ⟨s5, p5, rfl, _, _⟩ := O5.len
  have T6 := Lib.hid ((T4.out.trans (T5.sub (by simp))).trans ((still_setCR w5 p 8 (.slice s5 (4 * words) p5)).sub (by simp)))
  have R6 := Lib.hid (R5.still (still_setCR w5 p 8 (.slice s5 (4 * words) p5)) (by simpa using hgp))
  have O6 := Lib.hid ((O5.up (Nat.le_trans T3.out.size xr.bw.size)).still (still_setCR w5 p 8 (.slice s5 (4 * words) p5)) (fun k hk => by have := O5.2.2.ne P5 (by decide) k hk; simpa using this))
  replace P5 := Lib.hid P5
  replace O5 := Lib.hid O5
  replace R5 := Lib.hid R5
  replace T5 := Lib.hid T5
  dsimp only
  go_wp2_with fail
  go_end0
  exact ⟨rfl, _, P6.out, by rw [show at_ + 4 = A by rw [← hA.out]]; exact O6.out, by rw [show at_ + 4 = A by rw [← hA.out]]; exact R6.out, T6.out⟩

set_option maxRecDepth 100000 in
set_option maxHeartbeats 8000000 in
theorem rext_no (g p at_ k : Nat) (l : List Nat) (v : Value) (len : Nat) (mk : Bool) (ty sq st so : Nat) (ov : Value) (ex : Bool) (pf : Nat) (ev pv : Value) (pd : Nat)
    (hk : (len < at_ + 4 ∧ k = 2) ∨ (at_ + 4 ≤ len ∧ len < at_ + 4 + 4 * nm l (at_ + 2) 2 ∧ k = 2) ∨ (at_ + 4 + 4 * nm l (at_ + 2) 2 ≤ len ∧ 255 < nm l (at_ + 2) 2 ∧ k = 3)) (hat : at_ ≤ len) (hlen : len ≤ 1000000000000) (hby : ByL l) (w : World) (hr : Rdr w g v at_) (hp : PkV w p (rtpC mk ty sq st so ov ex pf ev pv pd)) (hv : SB w v len l) (hg : ∀ k, v.ownBlock = some k → k ≠ g ∧ k ≠ p) :
    Calls Try.prog 113 #[.pointer (some ⟨g, 0, none⟩), .pointer (some ⟨p, 0, none⟩)] w fun e w' => e = gaveUp k ∧ Still [g, p] w w' := by
  have hgp : g ≠ p := hp_ne hr hp (by decide)
  by_cases ha : len < at_ + 2
  · obtain rfl : k = 2 := by omega
    have c1 := fun wz hr hv => Lib.hid (rnum_no' g at_ 2 l v len (by decide) (by decide) (by omega) (by omega) hlen wz hr hv)
    replace hr := Lib.hid hr
    replace hp := Lib.hid hp
    replace hv := Lib.hid hv
    clear hk
    go_enter Try.func113, Try.ntmps113
    go_wp2_with fail
    refine Calls.mono (c1 w hr.out hv.out).out ?_
    rintro e w1 ⟨rfl, T1⟩
    exact ⟨rfl, rfl, T1.sub (by simp)⟩
  have hx := nm_lt l hby at_ 2
  have hy := nm_lt l hby (at_ + 2) 2
  have c1 := fun wz hr hv => Lib.hid (rnum_ok' g at_ 2 l v len (by decide) (by decide) (by omega) hlen wz hr hv)
  generalize hX : nm l at_ 2 = X at *
  have hXi : (X : Int) ≤ 65535 := by omega
  replace hX := Lib.hid hX
  replace hr := Lib.hid hr
  replace hp := Lib.hid hp
  replace hv := Lib.hid hv
  by_cases hb4 : len < at_ + 4
  · obtain rfl : k = 2 := by omega
    have c2 := fun wz hr hv => Lib.hid (rnum_no' g (at_ + 2) 2 l v len (by decide) (by decide) (by omega) (by omega) hlen wz hr hv)
    clear hk
    go_enter Try.func113, Try.ntmps113
    go_wp2_with fail
    refine Calls.mono (c1 w hr.out hv.out).out ?_
    rintro e w1 ⟨rfl, R1, T1⟩
    have V1 := Lib.hid (hv.out.still T1 (fun k hk => by simpa using (hg k hk).1))
    have P1 := hp.out.still T1 (by simpa using hgp.symm)
    have f6 := P1.frz 6
    have f7 := P1.frz 7
    have e6 : w1.cell? ⟨p, 6, none⟩ = some (.bool ex) := P1.cell 6
    have e7 : w1.cell? ⟨p, 7, none⟩ = some (.int .u16 (pf : Nat)) := P1.cell 7
    have P2 : Hid (PkV ((w1.setCell ⟨p, 6, none⟩ (.bool true)).setCell ⟨p, 7, none⟩ (.int .u16 (X : Nat))) p (rtpC mk ty sq st so ov true X ev pv pd)) := (P1.set 6 (.bool true)).set 7 (.int .u16 (X : Nat))
    have T2a : Still [p] w1 ((w1.setCell ⟨p, 6, none⟩ (.bool true)).setCell ⟨p, 7, none⟩ (.int .u16 (X : Nat))) := (still_setCR w1 p 6 _).trans (still_setCR _ p 7 _)
    have T2 := Lib.hid ((T1.sub (S' := [g, p]) (by simp)).trans (T2a.sub (by simp)))
    have R2 := Lib.hid (R1.still T2a (by simpa using hgp))
    have V2 := Lib.hid (V1.out.still T2a (fun k hk => by simpa using (hg k hk).2))
    replace P1 := Lib.hid P1
    replace R1 := Lib.hid R1
    replace T1 := Lib.hid T1
    replace T2a := Lib.hid T2a
    dsimp only
    go_upto_region 1 with (fail)
    generalize (w1.setCell ⟨p, 6, none⟩ (.bool true)).setCell ⟨p, 7, none⟩ (.int .u16 (X : Nat)) = w2 at *
    clear P1 R1 T1 T2a f6 f7 e6 e7 c1
    go_wp2_with fail
    refine Calls.mono (c2 w2 R2.out V2.out).out ?_
    rintro e w3 ⟨rfl, T3⟩
    exact ⟨rfl, rfl, T2.out.trans (T3.sub (by simp))⟩
  have c2 := fun wz hr hv => Lib.hid (rnum_ok' g (at_ + 2) 2 l v len (by decide) (by decide) (by omega) hlen wz hr hv)
  generalize hW : nm l (at_ + 2) 2 = words at *
  have hWi : (words : Int) ≤ 65535 := by omega
  replace hW := Lib.hid hW
  by_cases hc4 : len < at_ + 4 + 4 * words
  · obtain rfl : k = 2 := by omega
    clear hk
    go_enter Try.func113, Try.ntmps113
    go_wp2_with fail
    refine Calls.mono (c1 w hr.out hv.out).out ?_
    rintro e w1 ⟨rfl, R1, T1⟩
    have V1 := Lib.hid (hv.out.still T1 (fun k hk => by simpa using (hg k hk).1))
    have P1 := hp.out.still T1 (by simpa using hgp.symm)
    have f6 := P1.frz 6
    have f7 := P1.frz 7
    have e6 : w1.cell? ⟨p, 6, none⟩ = some (.bool ex) := P1.cell 6
    have e7 : w1.cell? ⟨p, 7, none⟩ = some (.int .u16 (pf : Nat)) := P1.cell 7
    have P2 : Hid (PkV ((w1.setCell ⟨p, 6, none⟩ (.bool true)).setCell ⟨p, 7, none⟩ (.int .u16 (X : Nat))) p (rtpC mk ty sq st so ov true X ev pv pd)) := (P1.set 6 (.bool true)).set 7 (.int .u16 (X : Nat))
    have T2a : Still [p] w1 ((w1.setCell ⟨p, 6, none⟩ (.bool true)).setCell ⟨p, 7, none⟩ (.int .u16 (X : Nat))) := (still_setCR w1 p 6 _).trans (still_setCR _ p 7 _)
    have T2 := Lib.hid ((T1.sub (S' := [g, p]) (by simp)).trans (T2a.sub (by simp)))
    have R2 := Lib.hid (R1.still T2a (by simpa using hgp))
    have V2 := Lib.hid (V1.out.still T2a (fun k hk => by simpa using (hg k hk).2))
    replace P1 := Lib.hid P1
    replace R1 := Lib.hid R1
    replace T1 := Lib.hid T1
    replace T2a := Lib.hid T2a
    dsimp only
    go_upto_region 1 with (fail)
    generalize (w1.setCell ⟨p, 6, none⟩ (.bool true)).setCell ⟨p, 7, none⟩ (.int .u16 (X : Nat)) = w2 at *
    clear P1 R1 T1 T2a f6 f7 e6 e7 c1
    go_wp2_with fail
    refine Calls.mono (c2 w2 R2.out V2.out).out ?_
    rintro e w3 ⟨rfl, R3, T3⟩
    have V3 := Lib.hid (V2.out.still T3 (fun k hk => by simpa using (hg k hk).1))
    have P3 := Lib.hid (P2.out.still T3 (by simpa using hgp.symm))
    replace T3 := Lib.hid (T2.out.trans (T3.sub (by simp)))
    replace R3 := Lib.hid R3
    clear c2 R2 V2 P2 T2
    dsimp only
    go_upto_region 2 with (fail)
    obtain ⟨sa, cap, rfl, hcap, hm⟩ := V3.out.len
    unfold maxLen at hm
    obtain ⟨c0, c1', _⟩ := R3.out.cells
    have l0 : ∀ x : LaterS [] w3, x.now.cell? ⟨g, 0, none⟩ = some (.slice sa len cap) := fun x => x.cell c0 (by simp)
    have l1 : ∀ x : LaterS [] w3, x.now.cell? ⟨g, 1, none⟩ = some (.int .i64 (at_ + 2 + 2 : Nat)) := fun x => x.cell c1' (by simp)
    have q0 : IntKind.i64.wrap (4 * (words : Int)) = 4 * (words : Int) := IntWalk.i64_in _ (by omega)
    have q1 : IntKind.i64.wrap ((len : Int) - ((at_ + 2 + 2 : Nat) : Int)) = (len : Int) - ((at_ + 2 + 2 : Nat) : Int) := IntWalk.i64_in _ (by omega)
    have q2 : decide (4 * (words : Int) ≤ (len : Int) - ((at_ + 2 + 2 : Nat) : Int)) = false := by simp; omega
    clear c0 c1'
    generalize hA : at_ + 2 + 2 = A at *
    replace hA := Lib.hid hA
    refine wp_region_gg [] [] [13] (by kernel_rfl) ?_
    refine hoist [] [] (a1 := ?_) 0 rfl (by kernel_rfl) (.inl ⟨rfl, rfl⟩) rfl rfl rfl (fun x K hK => ?_) ?_
    rotate_left
    · go_big_quiet_op
      exact hK
    refine hoist [] [] (a1 := ?_) 1 rfl (by kernel_rfl) (.inl ⟨rfl, rfl⟩) rfl rfl rfl (fun x K hK => ?_) ?_
    rotate_left
    · go_big_quiet_op
      exact hK
    refine hoist [] [] (a1 := ?_) 2 rfl (by kernel_rfl) (.inl ⟨rfl, rfl⟩) rfl rfl rfl (fun x K hK => ?_) ?_
    rotate_left
    · go_big_quiet_op
      exact hK
    refine hoist [] [] (a1 := ?_) 3 rfl (by kernel_rfl) (.inl ⟨rfl, rfl⟩) rfl rfl rfl (fun x K hK => ?_) ?_
    rotate_left
    · go_big_quiet_op
      exact hK
    refine hoist [] [] (a1 := ?_) 4 rfl (by kernel_rfl) (.inl ⟨rfl, rfl⟩) rfl rfl rfl (fun x K hK => ?_) ?_
    rotate_left
    · go_big_quiet_op
      exact hK
    refine hoist [] [] (a1 := ?_) 5 rfl (by kernel_rfl) (.inl ⟨rfl, rfl⟩) rfl rfl rfl (fun x K hK => ?_) ?_
    rotate_left
    · go_big_quiet_op
      exact hK
    refine hoist [] [] (a1 := ?_) 6 rfl (by kernel_rfl) (.inl ⟨rfl, rfl⟩) rfl rfl rfl (fun x K hK => ?_) ?_
    rotate_left
    · go_big_quiet_op
      exact hK
    refine hoist [] [] (a1 := ?_) 7 rfl (by kernel_rfl) (.inl ⟨rfl, rfl⟩) rfl rfl rfl (fun x K hK => ?_) ?_
    rotate_left
    · go_big_quiet_op
      exact hK
    refine hoist [] [] (a1 := ?_) 8 rfl (by kernel_rfl) (.inl ⟨rfl, rfl⟩) rfl rfl rfl (fun x K hK => ?_) ?_
    rotate_left
    · go_big_quiet_op
      exact hK
    refine hoist [] [] (a1 := ?_) 9 rfl (by kernel_rfl) (.inl ⟨rfl, rfl⟩) rfl rfl rfl (fun x K hK => ?_) ?_
    rotate_left
    · go_big_quiet_op
      exact hK
    refine hoist [] [] (a1 := ?_) 10 rfl (by kernel_rfl) (.inl ⟨rfl, rfl⟩) rfl rfl rfl (fun x K hK => ?_) ?_
    rotate_left
    · go_big_quiet_op
      exact hK
    refine hoist [] [] (a1 := ?_) 11 rfl (by kernel_rfl) (.inl ⟨rfl, rfl⟩) rfl rfl rfl (fun x K hK => ?_) ?_
    rotate_left
    · go_big_quiet_op
      exact hK
    refine hoist [] [] (a1 := ?_) 12 rfl (by kernel_rfl) (.inl ⟨rfl, rfl⟩) rfl rfl rfl (fun x K hK => ?_) ?_
    rotate_left
    · go_big_quiet_op
      exact hK
    refine tail 13 rfl (by kernel_rfl) rfl (fun xr => ?_)
    simp only [List.drop_succ_cons, List.drop_zero]
    clear q0 q1 q2 l0 l1
    go_wp2_with fail
    refine Calls.mono (must_no 2 xr.now) ?_
    rintro e w' ⟨rfl, rfl⟩
    exact ⟨rfl, rfl, T3.out.trans (xr.bw.still _)⟩
  · obtain ⟨h255, rfl⟩ : 255 < words ∧ k = 3 := by omega
    clear hk
    have d255 : decide ((words : Int) ≤ 255) = false := by simp; omega
    go_enter Try.func113, Try.ntmps113
    go_wp2_with fail
    refine Calls.mono (c1 w hr.out hv.out).out ?_
    rintro e w1 ⟨rfl, R1, T1⟩
    have V1 := Lib.hid (hv.out.still T1 (fun k hk => by simpa using (hg k hk).1))
    have P1 := hp.out.still T1 (by simpa using hgp.symm)
    have f6 := P1.frz 6
    have f7 := P1.frz 7
    have e6 : w1.cell? ⟨p, 6, none⟩ = some (.bool ex) := P1.cell 6
    have e7 : w1.cell? ⟨p, 7, none⟩ = some (.int .u16 (pf : Nat)) := P1.cell 7
    have P2 : Hid (PkV ((w1.setCell ⟨p, 6, none⟩ (.bool true)).setCell ⟨p, 7, none⟩ (.int .u16 (X : Nat))) p (rtpC mk ty sq st so ov true X ev pv pd)) := (P1.set 6 (.bool true)).set 7 (.int .u16 (X : Nat))
    have T2a : Still [p] w1 ((w1.setCell ⟨p, 6, none⟩ (.bool true)).setCell ⟨p, 7, none⟩ (.int .u16 (X : Nat))) := (still_setCR w1 p 6 _).trans (still_setCR _ p 7 _)
    have T2 := Lib.hid ((T1.sub (S' := [g, p]) (by simp)).trans (T2a.sub (by simp)))
    have R2 := Lib.hid (R1.still T2a (by simpa using hgp))
    have V2 := Lib.hid (V1.out.still T2a (fun k hk => by simpa using (hg k hk).2))
    replace P1 := Lib.hid P1
    replace R1 := Lib.hid R1
    replace T1 := Lib.hid T1
    replace T2a := Lib.hid T2a
    dsimp only
    go_upto_region 1 with (fail)
    generalize (w1.setCell ⟨p, 6, none⟩ (.bool true)).setCell ⟨p, 7, none⟩ (.int .u16 (X : Nat)) = w2 at *
    clear P1 R1 T1 T2a f6 f7 e6 e7 c1
    go_wp2_with fail
    refine Calls.mono (c2 w2 R2.out V2.out).out ?_
    rintro e w3 ⟨rfl, R3, T3⟩
    have V3 := Lib.hid (V2.out.still T3 (fun k hk => by simpa using (hg k hk).1))
    have P3 := Lib.hid (P2.out.still T3 (by simpa using hgp.symm))
    replace T3 := Lib.hid (T2.out.trans (T3.sub (by simp)))
    replace R3 := Lib.hid R3
    clear c2 R2 V2 P2 T2
    dsimp only
    go_upto_region 2 with (fail)
    obtain ⟨sa, cap, rfl, hcap, hm⟩ := V3.out.len
    unfold maxLen at hm
    obtain ⟨c0, c1', _⟩ := R3.out.cells
    have l0 : ∀ x : LaterS [] w3, x.now.cell? ⟨g, 0, none⟩ = some (.slice sa len cap) := fun x => x.cell c0 (by simp)
    have l1 : ∀ x : LaterS [] w3, x.now.cell? ⟨g, 1, none⟩ = some (.int .i64 (at_ + 2 + 2 : Nat)) := fun x => x.cell c1' (by simp)
    have q0 : IntKind.i64.wrap (4 * (words : Int)) = 4 * (words : Int) := IntWalk.i64_in _ (by omega)
    have q1 : IntKind.i64.wrap ((len : Int) - ((at_ + 2 + 2 : Nat) : Int)) = (len : Int) - ((at_ + 2 + 2 : Nat) : Int) := IntWalk.i64_in _ (by omega)
    have q2 : decide (4 * (words : Int) ≤ (len : Int) - ((at_ + 2 + 2 : Nat) : Int)) = true := by simp; omega
    clear c0 c1'
    generalize hA : at_ + 2 + 2 = A at *
    replace hA := Lib.hid hA
    refine wp_region_gg [] [] [13] (by kernel_rfl) ?_
    refine hoist [] [] (a1 := ?_) 0 rfl (by kernel_rfl) (.inl ⟨rfl, rfl⟩) rfl rfl rfl (fun x K hK => ?_) ?_
    rotate_left
    · go_big_quiet_op
      exact hK
    refine hoist [] [] (a1 := ?_) 1 rfl (by kernel_rfl) (.inl ⟨rfl, rfl⟩) rfl rfl rfl (fun x K hK => ?_) ?_
    rotate_left
    · go_big_quiet_op
      exact hK
    refine hoist [] [] (a1 := ?_) 2 rfl (by kernel_rfl) (.inl ⟨rfl, rfl⟩) rfl rfl rfl (fun x K hK => ?_) ?_
    rotate_left
    · go_big_quiet_op
      exact hK
    refine hoist [] [] (a1 := ?_) 3 rfl (by kernel_rfl) (.inl ⟨rfl, rfl⟩) rfl rfl rfl (fun x K hK => ?_) ?_
    rotate_left
    · go_big_quiet_op
      exact hK
    refine hoist [] [] (a1 := ?_) 4 rfl (by kernel_rfl) (.inl ⟨rfl, rfl⟩) rfl rfl rfl (fun x K hK => ?_) ?_
    rotate_left
    · go_big_quiet_op
      exact hK
    refine hoist [] [] (a1 := ?_) 5 rfl (by kernel_rfl) (.inl ⟨rfl, rfl⟩) rfl rfl rfl (fun x K hK => ?_) ?_
    rotate_left
    · go_big_quiet_op
      exact hK
    refine hoist [] [] (a1 := ?_) 6 rfl (by kernel_rfl) (.inl ⟨rfl, rfl⟩) rfl rfl rfl (fun x K hK => ?_) ?_
    rotate_left
    · go_big_quiet_op
      exact hK
    refine hoist [] [] (a1 := ?_) 7 rfl (by kernel_rfl) (.inl ⟨rfl, rfl⟩) rfl rfl rfl (fun x K hK => ?_) ?_
    rotate_left
    · go_big_quiet_op
      exact hK
    refine hoist [] [] (a1 := ?_) 8 rfl (by kernel_rfl) (.inl ⟨rfl, rfl⟩) rfl rfl rfl (fun x K hK => ?_) ?_
    rotate_left
    · go_big_quiet_op
      exact hK
    refine hoist [] [] (a1 := ?_) 9 rfl (by kernel_rfl) (.inl ⟨rfl, rfl⟩) rfl rfl rfl (fun x K hK => ?_) ?_
    rotate_left
    · go_big_quiet_op
      exact hK
    refine hoist [] [] (a1 := ?_) 10 rfl (by kernel_rfl) (.inl ⟨rfl, rfl⟩) rfl rfl rfl (fun x K hK => ?_) ?_
    rotate_left
    · go_big_quiet_op
      exact hK
    refine hoist [] [] (a1 := ?_) 11 rfl (by kernel_rfl) (.inl ⟨rfl, rfl⟩) rfl rfl rfl (fun x K hK => ?_) ?_
    rotate_left
    · go_big_quiet_op
      exact hK
    refine hoist [] [] (a1 := ?_) 12 rfl (by kernel_rfl) (.inl ⟨rfl, rfl⟩) rfl rfl rfl (fun x K hK => ?_) ?_
    rotate_left
    · go_big_quiet_op
      exact hK
    refine tail 13 rfl (by kernel_rfl) rfl (fun xr => ?_)
    simp only [List.drop_succ_cons, List.drop_zero]
    clear q0 q1 q2 l0 l1
    go_wp2_with fail
    refine Calls.mono (must_ok 2 xr.now) ?_
    rintro e w' ⟨rfl, rfl⟩
    dsimp only
    go_wp2_with fail
    refine Calls.mono (must_no 3 xr.now) ?_
    rintro e w' ⟨rfl, rfl⟩
    exact ⟨rfl, rfl, T3.out.trans (xr.bw.still _)⟩
end Go.Proofs.Ytgiajnfmjpdodaa
