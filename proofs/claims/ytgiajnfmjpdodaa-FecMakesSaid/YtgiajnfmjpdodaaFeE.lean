/- Covers of packets: a packet's text. No condition but the sizes'. -/
import Derived.Test.YtgiajnfmjpdodaaFeD
import Derived.Test.YtgiajnfmjpdodaaCct
import Derived.Test.YtgiajnfmjpdodaaNum
namespace Go.Proofs.Ytgiajnfmjpdodaa
open Go.RowKit

/-- A packet's bytes behind their length; none where it may not be. -/
def txN (d : RtpD) : List Nat := putB 2 ((writeN d).getD []).length ++ (writeN d).getD []
theorem write_le {d : RtpD} {b : List Nat} (h : writeN d = some b) : b.length ≤ 1200 := by
  unfold writeN at h
  split at h
  · next hh => cases h; exact hh.2
  · cases h
theorem get_le (d : RtpD) : ((writeN d).getD []).length ≤ 1200 := by
  cases h : writeN d with
  | none => exact Nat.zero_le _
  | some b => exact write_le h
theorem txN_le (d : RtpD) : (txN d).length ≤ 1202 := by
  have := get_le d
  unfold txN
  rw [List.length_append, putB_len]
  omega
theorem u64_len (n : Nat) (h : n ≤ 1200) : IntKind.u64.wrap ((n : Nat) : Int) = (n : Nat) := IntWalk.u64_in _ (by omega)
set_option maxRecDepth 100000 in
set_option maxHeartbeats 8000000 in
theorem text_any (c : Array Value) (d : RtpD) (w : World) (h : RtpV w c d) (wf : RtpWf d) (hpl : d.payload.length ≤ 1000000) :
    Calls Try.prog 76 #[.agg c] w fun e w' => ∃ v, e = .returned (.tuple #[v, .bool (writeN d).isSome]) ∧ OB w' w.heap.size 5 v (txN d).length (txN d) ∧ BW w w' := by
  have cW := fun wz h => Lib.hid (Write_any c d wz h wf hpl)
  obtain ⟨hle, hX⟩ : ((writeN d).getD []).length ≤ 1200 ∧ txN d = putB 2 ((writeN d).getD []).length ++ (writeN d).getD [] := ⟨get_le d, rfl⟩
  generalize txN d = X at *
  obtain ⟨so_, co, se, ce, sp, cp, rfl, N, E, D⟩ := h.open
  have hN := N.len
  have hE := E.len
  have hD := D.len
  obtain ⟨mk, ty, sq, st, so, ot, xb, pf, ex, pl, pd⟩ := d
  dsimp only at *
  obtain ⟨_, _, e1, n1, m1⟩ := hN
  obtain ⟨_, _, e2, n2, m2⟩ := hE
  obtain ⟨_, _, e3, n3, m3⟩ := hD
  simp only [Value.slice.injEq, true_and] at e1 e2 e3
  obtain ⟨rfl, rfl⟩ := e1
  obtain ⟨rfl, rfl⟩ := e2
  obtain ⟨rfl, rfl⟩ := e3
  unfold maxLen at m1 m2 m3
  have P1 := Lib.hid (PkV.made w (rtpC mk ty sq st so (.slice so_ ot.length co) xb pf (.slice se ex.length ce) (.slice sp pl.length cp) pd))
  have B1 : Hid (BW w (w.alloc (.cells (rtpC mk ty sq st so (.slice so_ ot.length co) xb pf (.slice se ex.length ce) (.slice sp pl.length cp) pd) 28))) := (BW.refl w).alloc
  have V1 := Lib.hid (h.bw B1.out)
  clear N E D h wf
  unfold WritePost at cW
  generalize hWd : writeN ⟨mk, ty, sq, st, so, ot, xb, pf, ex, pl, pd⟩ = Wd at *
  generalize hdd : (⟨mk, ty, sq, st, so, ot, xb, pf, ex, pl, pd⟩ : RtpD) = dd at *
  simp only [rtpC] at *
  generalize ot.length = no at *
  generalize ex.length = ne at *
  generalize pl.length = np at *
  replace hWd := Lib.hid hWd
  replace hdd := Lib.hid hdd
  replace hX := Lib.hid hX
  go_enter Try.func76, Try.ntmps76
  go_upto_region 1 with (fail)
  generalize w.alloc (.cells #[.bool mk, .int .u8 (ty : Nat), .int .u16 (sq : Nat), .int .u32 (st : Nat), .int .u32 (so : Nat), .slice so_ no co, .bool xb, .int .u16 (pf : Nat), .slice se ne ce, .slice sp np cp, .int .u8 (pd : Nat)] 28) = w1 at *
  have z0 := hp_cell (P1.out) 0
  have z1 := hp_cell (P1.out) 1
  have z2 := hp_cell (P1.out) 2
  have z3 := hp_cell (P1.out) 3
  have z4 := hp_cell (P1.out) 4
  have z5 := hp_cell (P1.out) 5
  have z6 := hp_cell (P1.out) 6
  have z7 := hp_cell (P1.out) 7
  have z8 := hp_cell (P1.out) 8
  have z9 := hp_cell (P1.out) 9
  have z10 := hp_cell (P1.out) 10
  simp only [List.getElem?_toArray, List.getElem?_cons_zero, List.getElem?_cons_succ] at z0 z1 z2 z3 z4 z5 z6 z7 z8 z9 z10
  go_wp2_with fail
  refine Calls.mono (cW w1 V1.out).out ?_
  rintro e w2 ⟨hr, hb⟩
  clear z0 z1 z2 z3 z4 z5 z6 z7 z8 z9 z10
  have B2 := Lib.hid (B1.out.trans hb)
  have hv : ∃ v k, e = .returned (.tuple #[v, .int .i64 k]) ∧ (k == (0 : Int)) = Wd.isSome ∧ SB w2 v (Wd.getD []).length (Wd.getD []) := by
    rcases hr with ⟨b, v, rfl, rfl, O⟩ | ⟨rfl, rfl⟩
    · exact ⟨v, 0, rfl, rfl, O.sb⟩
    · exact ⟨_, 1, rfl, rfl, (OB.nil w2 0 5).sb⟩
  obtain ⟨v, k, rfl, hk, S2⟩ := hv
  clear hr cW V1 P1 B1 hb
  generalize Wd.getD [] = b at *
  obtain ⟨sb, cb, rfl, hcb, hmb⟩ := S2.len
  unfold maxLen at hmb
  replace S2 := Lib.hid S2
  have q := u64_len _ hle
  dsimp only
  generalize hbl : b.length = nb at *
  replace hbl := Lib.hid hbl
  replace hk := Lib.hid hk
  have cP := Lib.hid (put_ok (.slice none 0 0) 0 [] 2 nb 2 (by omega) (by omega) rfl (by omega) (by omega) w2 (OB.nil w2 0 5).sb)
  go_wp2_with fail
  refine Calls.mono cP.out ?_
  rintro e w3 ⟨v3, rfl, O3, hb3⟩
  have B3 := Lib.hid (B2.out.call hb3)
  have S3 := Lib.hid (S2.out.below hb3 (Nat.le_refl _))
  clear S2 B2 cP
  rw [List.nil_append] at O3
  have M3 := Lib.hid (SM.two w3 v3 _ _ (.slice sb nb cb) _ _ O3.sb S3.out)
  have hfl : ([putB 2 nb, b] : List (List Nat)).flatten = X := by rw [hX.out]; simp
  obtain ⟨s3, c3, rfl, _, _⟩ := O3.len
  clear O3 S3
  dsimp only
  go_wp2_with fail
  have hsz : ([putB 2 nb, b] : List (List Nat)).flatten.length ≤ 1000000000 := by
    simp only [List.flatten_cons, List.flatten_nil, List.append_nil, List.length_append, putB_len]
    rw [hbl.out]; omega
  have cC := concat_ok _ 2 _ hsz _ M3.out
  rw [hfl] at cC
  refine Calls.mono cC ?_
  rintro e w4 ⟨v4, rfl, O4, hb4⟩
  have B4 := Lib.hid ((B3.out.trans (BW.refl w3).alloc).call hb4)
  have O5 := Lib.hid (O4.up (Nat.le_trans B3.out.size (BW.refl w3).alloc.size))
  obtain ⟨s4, c4, rfl, _, _⟩ := O5.out.len
  clear cC hsz hfl M3 O4 hb4 B3
  generalize hXl : X.length = nX at *
  replace hXl := Lib.hid hXl
  dsimp only
  go_wp2_with fail
  go_ret2
  rw [← hk.out]
  rw [hXl.out]
  exact ⟨_, rfl, O5.out, B4.out⟩
end Go.Proofs.Ytgiajnfmjpdodaa
