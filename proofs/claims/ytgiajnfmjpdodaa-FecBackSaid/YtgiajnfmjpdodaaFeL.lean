/- The reference's covers of packets: Make. No condition but the sizes'. -/
import Derived.Test.YtgiajnfmjpdodaaFeK
namespace Go.Proofs.Ytgiajnfmjpdodaa
open Go.RowKit

def RMakePost (D : List RtpD) (w : World) (e : Ending) (w' : World) : Prop :=
  ((∃ b v, makeN D = some b ∧ e = .returned (.tuple #[v, .bool true]) ∧ OB w' w.heap.size 5 v b.length b) ∨ (makeN D = none ∧ ∃ v, e = .returned (.tuple #[v, .bool false]))) ∧ BW w w'
theorem or_add_pow {m e : Nat} (hm : m < 65536) (he : e < 16) (h : m.testBit e = false) : m + 2 ^ e = m ||| 2 ^ e := by
  have hp := pow16 he
  have ho := or16 hm he
  have h0 : m &&& 2 ^ e = 0 := by rw [and_pow_bit, h]; rfl
  have hx : (BitVec.ofNat 17 m) &&& (BitVec.ofNat 17 (2 ^ e)) = 0#17 := by
    apply BitVec.eq_of_toNat_eq
    rw [BitVec.toNat_and, BitVec.toNat_ofNat, BitVec.toNat_ofNat, Nat.mod_eq_of_lt (by omega), Nat.mod_eq_of_lt (by omega), h0]
    rfl
  have k := congrArg BitVec.toNat (BitVec.add_eq_or_of_and_eq_zero _ _ hx)
  rw [BitVec.toNat_add, BitVec.toNat_or, BitVec.toNat_ofNat, BitVec.toNat_ofNat, Nat.mod_eq_of_lt (show m < 2 ^ 17 by omega), Nat.mod_eq_of_lt (show 2 ^ e < 2 ^ 17 by omega), Nat.mod_eq_of_lt (by omega)] at k
  exact k
theorem put2 (x : Nat) (h : x < 65536) : putB 2 x = [x / 256, x % 256] := by
  simp only [putB, List.range_succ, List.range_zero, List.nil_append, List.map_append, List.map_cons, List.map_nil, List.cons_append]
  simp
  omega
theorem dst_int {f t : Nat} (hf : f < 65536) : ((t : Int) - (f : Int) + 65536) % 65536 = (dst f t : Nat) := by
  unfold dst; omega
theorem seqs_get (D : List RtpD) (k : Nat) (h : k < D.length) : (seqsN D)[k]? = some (D[k]).seq := by simp [seqsN, h]
set_option maxRecDepth 100000 in
set_option maxHeartbeats 8000000 in
theorem refMake_any (v : Value) (n : Nat) (D : List RtpD) (w : World) (h : RL w v n D) (hn : n ≤ 1000000) (hpl : ∀ d ∈ D, d.payload.length ≤ 1000000) :
    Calls Try.prog 39 #[v] w (RMakePost D w) := by
  unfold RMakePost
  have hwf := Lib.hid h.wf
  have hsq := Lib.hid (seqs_lt h.wf)
  obtain ⟨sa, cap, rfl, hnc, hcm⟩ := h.sl
  unfold maxLen at hcm
  have hH := Lib.hid h
  have hdl := Lib.hid h.dl
  have hsl : (seqsN D).length = n := by unfold seqsN; rw [List.length_map, h.dl]
  have hM : makeN D = if D.length < 2 ∨ 16 < D.length then none else match baseN (seqsN D) with | none => none | some f => if ((maskN f (seqsN D) 0).isSome && D.all (okD (srcN D))) = true ∧ (outN D f ((maskN f (seqsN D) 0).getD 0)).length ≤ 1200 then some (outN D f ((maskN f (seqsN D) 0).getD 0)) else none := rfl
  have hget := Lib.hid (seqs_get D)
  have hbm : ∀ f, baseN (seqsN D) = some f → f ∈ seqsN D := fun f h => base_mem h
  have hbn : ∀ f, baseN (seqsN D) = some f → ∀ x ∈ seqsN D, dst f x < 16 := fun f h => base_near h
  have hbd : baseN (seqsN D) = (seqsN D).find? fun f => !((seqsN D).any (farB f)) := rfl
  clear h
  generalize makeN D = R at *
  replace hM := Lib.hid hM
  replace hbm := Lib.hid hbm
  replace hpl := Lib.hid hpl
  replace hsl := Lib.hid hsl
  replace hbn := Lib.hid hbn
  go_enter Try.func39, Try.ntmps39
  by_cases h1 : n < 2
  · have d1 : decide ((n : Int) < 2) = true := by simp; omega
    have hR : R = none := by rw [hM.out, hdl.out, if_pos (.inl h1)]
    replace hR := Lib.hid hR
    replace hbd := Lib.hid hbd
    clear hM
    go_wp2_with fail
    go_ret2
    exact ⟨.inr ⟨hR.out, _, rfl⟩, BW.refl _⟩
  have d1 : decide ((n : Int) < 2) = false := by simp; omega
  by_cases h2 : 16 < n
  · have d2 : decide ((16 : Int) < (n : Int)) = true := by simp; omega
    have hR : R = none := by rw [hM.out, hdl.out, if_pos (.inr h2)]
    replace hR := Lib.hid hR
    replace hbd := Lib.hid hbd
    clear hM
    go_wp2_with fail
    go_ret2
    exact ⟨.inr ⟨hR.out, _, rfl⟩, BW.refl _⟩
  have d2 : decide ((16 : Int) < (n : Int)) = false := by simp; omega
  have hM2 := hM.out
  rw [hdl.out, if_neg (by omega)] at hM2
  clear hM
  have hbd2 : baseN (seqsN D) = ((seqsN D).drop 0).find? fun f => !((seqsN D).any (farB f)) := by rw [List.drop_zero]; exact hbd
  clear hbd
  generalize hbs : baseN (seqsN D) = bs at *
  generalize hL : seqsN D = L at *
  replace hM2 := Lib.hid hM2
  replace hbd2 := Lib.hid hbd2
  replace hbs := Lib.hid hbs
  replace hL := Lib.hid hL
  have B0 := Lib.hid (BW.refl w)
  go_upto_region 5 with (fail)
  go_loopg [4, 5] n (fun m' s i wx => ∃ k : Nat, m' = n - k ∧ k ≤ n ∧ i = .int .i64 (k : Nat) ∧ ((s = .int .i64 (-1) ∧ Hid (bs = (L.drop k).find? fun f => !(L.any (farB f)))) ∨ ∃ f : Nat, s = .int .i64 (f : Nat) ∧ Hid (bs = some f)) ∧ Hid (BW w wx))
  case atStart => exact ⟨0, by omega, by omega, rfl, .inl ⟨rfl, hbd2⟩, B0⟩
  case round =>
    clear hbd2 B0
    obtain ⟨k, rfl, hk, rfl, ⟨rfl, hb⟩ | ⟨f, rfl, hb⟩, B⟩ := hrel
    · by_cases hkn : k < n
      · have d3 : decide ((k : Int) < (n : Int)) = true := by simp; omega
        have hkD : k < D.length := by rw [hdl.out]; exact hkn
        have hkL : k < L.length := by rw [hsl.out]; exact hkn
        have hb2 := hb.out
        rw [List.drop_eq_getElem_cons hkL, List.find?_cons] at hb2
        have hLk : L[k] = (D[k]).seq := by
          have := hget.out k hkD
          rw [List.getElem?_eq_getElem hkL] at this
          exact Option.some.inj this
        rw [hLk] at hb2
        have hf16 : (D[k]).seq < 65536 := (hwf.out _ (List.getElem_mem hkD)).seq
        have hck : ∀ wx, BW w wx → ∃ b o, sa = some ⟨b, o, none⟩ ∧ wx.cell? ⟨b, o + k * 11 + 2, none⟩ = some (.int .u16 ((D[k]).seq : Nat)) := fun wx hb => by
          obtain ⟨b, o, e, hc⟩ := (hH.out.bw hb).form (by omega)
          obtain ⟨_, _, _, _, _, _, -, -, -, -, -, -, -, hcc0⟩ := hc k hkD
          have y2 := hcc0 2 (by decide)
          simp only [rtpC, List.getElem?_toArray, List.getElem?_cons_zero, List.getElem?_cons_succ] at y2
          exact ⟨b, o, e, y2⟩
        clear hb hLk
        generalize (D[k]).seq = f at *
        replace hb2 := Lib.hid hb2
        replace hck := Lib.hid hck
        obtain ⟨b, o, rfl, -⟩ := hck.out wr B.out
        obtain ⟨w0, rfl⟩ : ∃ y, y = wr := ⟨_, rfl⟩
        go_upto_region 9 with (fail)
        go_loopg [6, 7] n (fun m' s i wx => ∃ j : Nat, m' = n - j ∧ j ≤ n ∧ i = .int .i64 (j : Nat) ∧ s = .bool (!((L.take j).any (farB f))) ∧ Hid (BW w wx))
        case atStart => exact ⟨0, by omega, by omega, rfl, by simp, B⟩
        case round =>
          clear B
          obtain ⟨j, rfl, hj, rfl, rfl, B⟩ := hrel
          by_cases hjn : j < n
          · have d4 : decide ((j : Int) < (n : Int)) = true := by simp; omega
            have hjD : j < D.length := by rw [hdl.out]; exact hjn
            have hjL : j < L.length := by rw [hsl.out]; exact hjn
            obtain ⟨b', o', he, hc⟩ := (hH.out.bw B.out).form (by omega)
            cases he
            obtain ⟨_, _, _, _, _, _, -, -, -, -, -, -, -, hcc0⟩ := hc j hjD
            have y3 := hcc0 2 (by decide)
            simp only [rtpC, List.getElem?_toArray, List.getElem?_cons_zero, List.getElem?_cons_succ] at y3
            obtain ⟨b', o', he, y2⟩ := hck.out wr B.out
            cases he
            have hLj : L[j] = (D[j]).seq := by
              have := hget.out j hjD
              rw [List.getElem?_eq_getElem hjL] at this
              exact Option.some.inj this
            have hst : (L.take (j + 1)).any (farB f) = ((L.take j).any (farB f) || farB f (D[j]).seq) := by
              rw [List.take_succ_eq_append_getElem hjL, List.any_append, hLj]; simp
            have ht16 : (D[j]).seq < 65536 := (hwf.out _ (List.getElem_mem hjD)).seq
            clear hcc0 hLj hc
            generalize (D[j]).seq = t at *
            generalize (L.take j).any (farB f) = z at *
            have m2 : ∀ y : LaterS [] wr, y.now.cell? ⟨b, o + k * 11 + 2, none⟩ = some (.int .u16 (f : Nat)) := fun y => y.bw.cell y2
            have m3 : ∀ y : LaterS [] wr, y.now.cell? ⟨b, o + j * 11 + 2, none⟩ = some (.int .u16 (t : Nat)) := fun y => y.bw.cell y3
            have hdi := dst_int (t := t) hf16
            have hfb : farB f t = decide (16 ≤ dst f t) := rfl
            have hdl16 : dst f t < 65536 := by unfold dst; omega
            generalize dst f t = dd at *
            have hst2 : (!((L.take (j + 1)).any (farB f))) = ((!z) && decide ((dd : Int) < 16)) := by
              rw [hst, hfb, Bool.eq_iff_iff]; simp; omega
            clear hst hfb y3 y2
            cases z with
            | true =>
              simp only [Bool.not_true, Bool.false_and] at hst2 ⊢
              replace hst2 := Lib.hid hst2
              go_upto_region 11 with (fail)
              refine wp_region_gg [] [] [] (by kernel_rfl) ?_
              refine hoist [] [] (a1 := ?_) 0 rfl (by kernel_rfl) (.inl ⟨rfl, rfl⟩) rfl rfl rfl (fun x K hK => ?_) ?_
              rotate_left
              · go_big_quiet_op
                exact hK
              refine hoist [] [] (a1 := ?_) 1 rfl (by kernel_rfl) (.inl ⟨rfl, rfl⟩) rfl rfl rfl (fun x K hK => ?_) ?_
              rotate_left
              · go_big_quiet_op
                exact hK
              refine hoist_skip [] [] 2 rfl (by kernel_rfl) (.inl ⟨rfl, rfl⟩) rfl (a1 := ?_) ?_ ?_
              rotate_left
              · simp only [Act.put, List.setIfInBounds_toArray, List.set_cons_succ, List.set_cons_zero]; rfl
              refine hoist_skip [] [] 3 rfl (by kernel_rfl) (.inl ⟨rfl, rfl⟩) rfl (a1 := ?_) ?_ ?_
              rotate_left
              · simp only [Act.put, List.setIfInBounds_toArray, List.set_cons_succ, List.set_cons_zero]; rfl
              refine hoist_skip [] [] 4 rfl (by kernel_rfl) (.inl ⟨rfl, rfl⟩) rfl (a1 := ?_) ?_ ?_
              rotate_left
              · simp only [Act.put, List.setIfInBounds_toArray, List.set_cons_succ, List.set_cons_zero]; rfl
              refine hoist_skip [] [] 5 rfl (by kernel_rfl) (.inl ⟨rfl, rfl⟩) rfl (a1 := ?_) ?_ ?_
              rotate_left
              · simp only [Act.put, List.setIfInBounds_toArray, List.set_cons_succ, List.set_cons_zero]; rfl
              refine hoist_skip [] [] 6 rfl (by kernel_rfl) (.inl ⟨rfl, rfl⟩) rfl (a1 := ?_) ?_ ?_
              rotate_left
              · simp only [Act.put, List.setIfInBounds_toArray, List.set_cons_succ, List.set_cons_zero]; rfl
              refine hoist_skip [] [] 7 rfl (by kernel_rfl) (.inl ⟨rfl, rfl⟩) rfl (a1 := ?_) ?_ ?_
              rotate_left
              · simp only [Act.put, List.setIfInBounds_toArray, List.set_cons_succ, List.set_cons_zero]; rfl
              refine hoist_skip [] [] 8 rfl (by kernel_rfl) (.inl ⟨rfl, rfl⟩) rfl (a1 := ?_) ?_ ?_
              rotate_left
              · simp only [Act.put, List.setIfInBounds_toArray, List.set_cons_succ, List.set_cons_zero]; rfl
              refine hoist_skip [] [] 9 rfl (by kernel_rfl) (.inl ⟨rfl, rfl⟩) rfl (a1 := ?_) ?_ ?_
              rotate_left
              · simp only [Act.put, List.setIfInBounds_toArray, List.set_cons_succ, List.set_cons_zero]; rfl
              refine hoist_skip [] [] 10 rfl (by kernel_rfl) (.inl ⟨rfl, rfl⟩) rfl (a1 := ?_) ?_ ?_
              rotate_left
              · simp only [Act.put, List.setIfInBounds_toArray, List.set_cons_succ, List.set_cons_zero]; rfl
              refine hoist_skip [] [] 11 rfl (by kernel_rfl) (.inl ⟨rfl, rfl⟩) rfl (a1 := ?_) ?_ ?_
              rotate_left
              · simp only [Act.put, List.setIfInBounds_toArray, List.set_cons_succ, List.set_cons_zero]; rfl
              refine hoist_skip [] [] 12 rfl (by kernel_rfl) (.inl ⟨rfl, rfl⟩) rfl (a1 := ?_) ?_ ?_
              rotate_left
              · simp only [Act.put, List.setIfInBounds_toArray, List.set_cons_succ, List.set_cons_zero]; rfl
              refine hoist_skip [] [] 13 rfl (by kernel_rfl) (.inl ⟨rfl, rfl⟩) rfl (a1 := ?_) ?_ ?_
              rotate_left
              · simp only [Act.put, List.setIfInBounds_toArray, List.set_cons_succ, List.set_cons_zero]; rfl
              refine hoist_skip [] [] 14 rfl (by kernel_rfl) (.inl ⟨rfl, rfl⟩) rfl (a1 := ?_) ?_ ?_
              rotate_left
              · simp only [Act.put, List.setIfInBounds_toArray, List.set_cons_succ, List.set_cons_zero]; rfl
              refine hoist_skip [] [] 15 rfl (by kernel_rfl) (.inl ⟨rfl, rfl⟩) rfl (a1 := ?_) ?_ ?_
              rotate_left
              · simp only [Act.put, List.setIfInBounds_toArray, List.set_cons_succ, List.set_cons_zero]; rfl
              refine hoist_skip [] [] 16 rfl (by kernel_rfl) (.inl ⟨rfl, rfl⟩) rfl (a1 := ?_) ?_ ?_
              rotate_left
              · simp only [Act.put, List.setIfInBounds_toArray, List.set_cons_succ, List.set_cons_zero]; rfl
              refine hoist_skip [] [] 17 rfl (by kernel_rfl) (.inl ⟨rfl, rfl⟩) rfl (a1 := ?_) ?_ ?_
              rotate_left
              · simp only [Act.put, List.setIfInBounds_toArray, List.set_cons_succ, List.set_cons_zero]; rfl
              refine hoist [] [] (a1 := ?_) 18 rfl (by kernel_rfl) (.inl ⟨rfl, rfl⟩) rfl rfl rfl (fun x K hK => ?_) ?_
              rotate_left
              · go_big_quiet_op
                exact hK
              refine hoist [] [] (a1 := ?_) 19 rfl (by kernel_rfl) (.inl ⟨rfl, rfl⟩) rfl rfl rfl (fun x K hK => ?_) ?_
              rotate_left
              · go_big_quiet_op
                exact hK
              refine done (by kernel_rfl) (fun xr => ?_)
              clear m2 m3 hdi d4
              have B2 := Lib.hid (B.out.trans xr.bw)
              generalize xr.now = w9 at *
              go_wp2_with fail
              go_roundg (n - (j + 1))
              case measure => omega
              case rel => exact ⟨j + 1, rfl, by omega, by push_cast; rfl, by rw [hst2.out], B2⟩
            | false =>
              simp only [Bool.not_false, Bool.true_and] at hst2 ⊢
              replace hst2 := Lib.hid hst2
              go_upto_region 11 with (fail)
              refine wp_region_gg [] [] [] (by kernel_rfl) ?_
              refine hoist [] [] (a1 := ?_) 0 rfl (by kernel_rfl) (.inl ⟨rfl, rfl⟩) rfl rfl rfl (fun x K hK => ?_) ?_
              rotate_left
              · go_big_quiet_op
                exact hK
              refine hoist [] [] (a1 := ?_) 1 rfl (by kernel_rfl) (.inl ⟨rfl, rfl⟩) rfl rfl rfl (fun x K hK => ?_) ?_
              rotate_left
              · go_big_quiet_op
                exact hK
              refine hoist [] [] (a1 := ?_) 2 rfl (by kernel_rfl) (.inl ⟨rfl, rfl⟩) rfl rfl rfl (fun x K hK => ?_) ?_
              rotate_left
              · go_big_quiet_op
                exact hK
              refine hoist [] [] (a1 := ?_) 3 rfl (by kernel_rfl) (.inl ⟨rfl, rfl⟩) rfl rfl rfl (fun x K hK => ?_) ?_
              rotate_left
              · go_big_quiet_op
                exact hK
              refine hoist [] [] (a1 := ?_) 4 rfl (by kernel_rfl) (.inl ⟨rfl, rfl⟩) rfl rfl rfl (fun x K hK => ?_) ?_
              rotate_left
              · go_big_quiet_op
                exact hK
              refine hoist [] [] (a1 := ?_) 5 rfl (by kernel_rfl) (.inl ⟨rfl, rfl⟩) rfl rfl rfl (fun x K hK => ?_) ?_
              rotate_left
              · go_big_quiet_op
                exact hK
              refine hoist [] [] (a1 := ?_) 6 rfl (by kernel_rfl) (.inl ⟨rfl, rfl⟩) rfl rfl rfl (fun x K hK => ?_) ?_
              rotate_left
              · go_big_quiet_op
                exact hK
              refine hoist [] [] (a1 := ?_) 7 rfl (by kernel_rfl) (.inl ⟨rfl, rfl⟩) rfl rfl rfl (fun x K hK => ?_) ?_
              rotate_left
              · go_big_quiet_op
                exact hK
              refine hoist [] [] (a1 := ?_) 8 rfl (by kernel_rfl) (.inl ⟨rfl, rfl⟩) rfl rfl rfl (fun x K hK => ?_) ?_
              rotate_left
              · go_big_quiet_op
                exact hK
              refine hoist [] [] (a1 := ?_) 9 rfl (by kernel_rfl) (.inl ⟨rfl, rfl⟩) rfl rfl rfl (fun x K hK => ?_) ?_
              rotate_left
              · go_big_quiet_op
                exact hK
              refine hoist [] [] (a1 := ?_) 10 rfl (by kernel_rfl) (.inl ⟨rfl, rfl⟩) rfl rfl rfl (fun x K hK => ?_) ?_
              rotate_left
              · go_big_quiet_op
                exact hK
              refine hoist [] [] (a1 := ?_) 11 rfl (by kernel_rfl) (.inl ⟨rfl, rfl⟩) rfl rfl rfl (fun x K hK => ?_) ?_
              rotate_left
              · go_big_quiet_op
                exact hK
              refine hoist [] [] (a1 := ?_) 12 rfl (by kernel_rfl) (.inl ⟨rfl, rfl⟩) rfl rfl rfl (fun x K hK => ?_) ?_
              rotate_left
              · go_big_quiet_op
                exact hK
              refine hoist [] [] (a1 := ?_) 13 rfl (by kernel_rfl) (.inl ⟨rfl, rfl⟩) rfl rfl rfl (fun x K hK => ?_) ?_
              rotate_left
              · go_big_quiet_op
                exact hK
              refine hoist [] [] (a1 := ?_) 14 rfl (by kernel_rfl) (.inl ⟨rfl, rfl⟩) rfl rfl rfl (fun x K hK => ?_) ?_
              rotate_left
              · go_big_quiet_op
                exact hK
              refine hoist [] [] (a1 := ?_) 15 rfl (by kernel_rfl) (.inl ⟨rfl, rfl⟩) rfl rfl rfl (fun x K hK => ?_) ?_
              rotate_left
              · go_big_quiet_op
                exact hK
              refine hoist [] [] (a1 := ?_) 16 rfl (by kernel_rfl) (.inl ⟨rfl, rfl⟩) rfl rfl rfl (fun x K hK => ?_) ?_
              rotate_left
              · go_big_quiet_op
                exact hK
              refine hoist [] [] (a1 := ?_) 17 rfl (by kernel_rfl) (.inl ⟨rfl, rfl⟩) rfl rfl rfl (fun x K hK => ?_) ?_
              rotate_left
              · go_big_quiet_op
                exact hK
              refine hoist [] [] (a1 := ?_) 18 rfl (by kernel_rfl) (.inl ⟨rfl, rfl⟩) rfl rfl rfl (fun x K hK => ?_) ?_
              rotate_left
              · go_big_quiet_op
                exact hK
              refine hoist [] [] (a1 := ?_) 19 rfl (by kernel_rfl) (.inl ⟨rfl, rfl⟩) rfl rfl rfl (fun x K hK => ?_) ?_
              rotate_left
              · go_big_quiet_op
                exact hK
              refine done (by kernel_rfl) (fun xr => ?_)
              clear m2 m3 d4
              have B2 := Lib.hid (B.out.trans xr.bw)
              generalize xr.now = w9 at *
              go_wp2_with fail
              go_roundg (n - (j + 1))
              case measure => omega
              case rel => exact ⟨j + 1, rfl, by omega, by push_cast; rfl, by rw [hst2.out], B2⟩
          · obtain rfl : j = n := by omega
            have d4 : decide ((j : Int) < (j : Int)) = false := by simp
            rw [List.take_of_length_le (by rw [hsl.out]; exact Nat.le_refl _)]
            cases hz : L.any (farB f) with
            | true =>
              have hb3 : bs = (L.drop (k + 1)).find? fun f => !(L.any (farB f)) := by rw [hb2.out, hz]; rfl
              replace hb3 := Lib.hid hb3
              replace hz := Lib.hid hz
              simp only [Bool.not_true]
              go_wp2_with fail
              go_roundg (j - (k + 1))
              case measure => omega
              case rel => exact ⟨k + 1, rfl, by omega, by push_cast; rfl, .inl ⟨rfl, hb3⟩, B⟩
            | false =>
              have hb3 : bs = some f := by rw [hb2.out, hz]; rfl
              replace hb3 := Lib.hid hb3
              replace hz := Lib.hid hz
              simp only [Bool.not_false]
              obtain ⟨b', o', he, y2⟩ := hck.out wr B.out
              cases he
              go_wp2_with fail
              go_roundg (j - (k + 1))
              case measure => omega
              case rel => exact ⟨k + 1, rfl, by omega, by push_cast; rfl, .inr ⟨f, rfl, hb3⟩, B⟩
      · obtain rfl : k = n := by omega
        have d3 : decide ((k : Int) < (k : Int)) = false := by simp
        have hb3 : bs = none := by rw [hb.out, List.drop_of_length_le (by rw [hsl.out]; exact Nat.le_refl _)]; rfl
        have hR : R = none := by rw [hM2.out, hb3]
        replace hb3 := Lib.hid hb3
        replace hR := Lib.hid hR
        go_wp2_with fail
        go_ret2
        exact ⟨.inr ⟨hR.out, _, rfl⟩, B.out⟩
    · go_upto_region 5 with (fail)
      go_cut [30] (fun v wc => v = .bool false ∧ wr = wc)
      case first =>
        have d3 : decide ((f : Int) < 0) = false := by simp
        by_cases hkn : k < n
        · have d4 : decide ((k : Int) < (n : Int)) = true := by simp; omega
          go_wp2_with fail
          go_meet
          exact ⟨rfl, rfl⟩
        · have d4 : decide ((k : Int) < (n : Int)) = false := by simp; omega
          go_wp2_with fail
          go_meet
          exact ⟨rfl, rfl⟩
      case rest =>
        obtain ⟨rfl, rfl⟩ := hcut
        have d3 : decide ((f : Int) < 0) = false := by simp
        have hM3 := hM2.out
        simp only [hb.out] at hM3
        have hfL := hbm.out f hb.out
        have hf16 := hsq.out f hfL
        have hnr := hbn.out f hb.out
        clear hM2 hb hbm hbn hbs hfL hk
        have hA : maskN f L 0 = maskN f (L.drop 0) 0 := by rw [List.drop_zero]
        have hm16 := mask_lt (f := f) (m := 0) hnr (by decide)
        generalize maskN f L 0 = ms at *
        replace hM3 := Lib.hid hM3
        replace hnr := Lib.hid hnr
        replace hA := Lib.hid hA
        go_upto_region 19 with (fail)
        go_loopg [8, 9, 10] n (fun m' mv ts i wx => ∃ (k m : Nat) (so : Option Addr) (co : Nat), m' = n - k ∧ k ≤ n ∧ mv = .int .i64 (m : Nat) ∧ m < 65536 ∧ ts = .slice so k co ∧ co ≤ 9223372036854775807 ∧ i = .int .i64 (k : Nat) ∧ Hid (ms = maskN f (L.drop k) m) ∧ Hid ((D.take k).all (okD (srcN D)) = true) ∧ Hid (EQ BR 22 wx w.heap.size (.slice so k co) k ((D.take k).map txN)) ∧ Hid (BW w wx))
        case atStart => exact ⟨0, 0, none, 0, by omega, by omega, rfl, by decide, rfl, by omega, rfl, hA, rfl, EQ.nil _ _ _ _, B⟩
        case round =>
          clear B hA
          obtain ⟨k, m, so, co, rfl, hk, rfl, hm, rfl, hco, rfl, hA, hal, O, B⟩ := hrel
          by_cases hkn : k < n
          · have d4 : decide ((k : Int) < (n : Int)) = true := by simp; omega
            have hkD : k < D.length := by rw [hdl.out]; exact hkn
            have hkL : k < L.length := by rw [hsl.out]; exact hkn
            have h0D : 0 < D.length := by omega
            obtain ⟨b, o, rfl, hc⟩ := (hH.out.bw B.out).form (by omega)
            obtain ⟨_, _, _, _, _, _, -, -, -, -, -, -, -, hcc0⟩ := hc 0 h0D
            have y4 := hcc0 4 (by decide)
            simp only [rtpC, List.getElem?_toArray, List.getElem?_cons_zero, List.getElem?_cons_succ, Nat.add_zero, Nat.zero_mul] at y4
            have hs0 : (D[0]).source = srcN D := by
              cases D with
              | nil => cases h0D
              | cons d l => rfl
            rw [hs0] at y4
            clear hcc0 hs0
            obtain ⟨s5, c5, s8, c8, s9, c9, hV, n1, m1, n2, m2, n3, m3, hcc⟩ := hc k hkD
            have cT := fun wz (hb : BW wr wz) => Lib.hid (refText_any _ D[k] wz (hV.bw hb) (hwf.out _ (List.getElem_mem hkD)) (hpl.out _ (List.getElem_mem hkD)))
            unfold TextPost at cT
            have hall : (D.take (k + 1)).all (okD (srcN D)) = ((writeN D[k]).isSome && (D[k]).source == srcN D) := by
              rw [List.take_succ_eq_append_getElem hkD, List.all_append, hal.out]
              simp [okD]
            have hDall : D.all (okD (srcN D)) = true → (D.take (k + 1)).all (okD (srcN D)) = true := fun h => List.all_eq_true.2 fun x hx => List.all_eq_true.1 h x (List.mem_of_mem_take hx)
            have hmp : (D.take (k + 1)).map txN = (D.take k).map txN ++ [txN D[k]] := by
              rw [List.take_succ_eq_append_getElem hkD, List.map_append]; rfl
            have hA2 := hA.out
            rw [List.drop_eq_getElem_cons hkL] at hA2
            unfold maskN at hA2
            have hdd := hnr.out _ (List.getElem_mem hkL)
            have hLk : L[k] = (D[k]).seq := by
              have := hget.out k hkD
              rw [List.getElem?_eq_getElem hkL] at this
              exact Option.some.inj this
            rw [hLk] at hA2 hdd
            have z0 := hcc 0 (by decide)
            have z1 := hcc 1 (by decide)
            have z2 := hcc 2 (by decide)
            have z3 := hcc 3 (by decide)
            have z4 := hcc 4 (by decide)
            have z5 := hcc 5 (by decide)
            have z6 := hcc 6 (by decide)
            have z7 := hcc 7 (by decide)
            have z8 := hcc 8 (by decide)
            have z9 := hcc 9 (by decide)
            have z10 := hcc 10 (by decide)
            simp only [rtpC, List.getElem?_toArray, List.getElem?_cons_zero, List.getElem?_cons_succ, Nat.add_zero] at z0 z1 z2 z3 z4 z5 z6 z7 z8 z9 z10
            clear hcc hc hV hLk hA
            have hdi := dst_int (t := (D[k]).seq) hf16
            have ht16 : (D[k]).seq < 65536 := (hwf.out _ (List.getElem_mem hkD)).seq
            generalize txN D[k] = tx at *
            generalize writeN D[k] = wn at *
            generalize (D[k]).seq = sq at *
            generalize (D[k]).marker = mk at *
            generalize (D[k]).typ = ty at *
            generalize (D[k]).stamp = st at *
            generalize (D[k]).source = so_ at *
            generalize (D[k]).others.length = no at *
            generalize (D[k]).ext = xb at *
            generalize (D[k]).profile = pf at *
            generalize (D[k]).extra.length = ne at *
            generalize (D[k]).payload.length = np at *
            generalize (D[k]).pad = pd at *
            generalize dst f sq = e at *
            generalize hsr : srcN D = src at *
            have hp := pow16 hdd
            have ho := or16 hm hdd
            have hbit := Nat.testBit_eq_decide_div_mod_eq (x := m) (i := e)
            have q2 : IntKind.i64.wrap ((2 : Int) ^ e) = ((2 ^ e : Nat) : Int) := by
              rw [show (2 : Int) ^ e = ((2 ^ e : Nat) : Int) by push_cast; rfl]
              generalize 2 ^ e = p at hp ⊢
              exact IntWalk.i64_in _ (by omega)
            replace hall := Lib.hid hall
            replace hmp := Lib.hid hmp
            replace hDall := Lib.hid hDall
            replace hsr := Lib.hid hsr
            replace hA2 := Lib.hid hA2
            replace hbit := Lib.hid hbit
            replace hal := Lib.hid hal
            obtain ⟨wq, rfl⟩ : ∃ y, y = wr := ⟨_, rfl⟩
            have hbI : ((((m : Int) / 2 ^ e).tmod 2) == 1) = m.testBit e := by
              have h1 : (m : Int) / 2 ^ e = ((m / 2 ^ e : Nat) : Int) := by push_cast; rfl
              rw [hbit.out, h1, Int.tmod_eq_emod_of_nonneg (Int.natCast_nonneg _), Bool.eq_iff_iff, beq_iff_eq, decide_eq_true_iff]
              omega
            clear hbit
            go_upto_region 22 with (fail)
            rw [hdi]
            clear hdi
            have l4 : ∀ y : LaterS [] wq, y.now.cell? ⟨b, o + 4, none⟩ = some (.int .u32 (src : Nat)) := fun y => y.bw.cell y4
            have l5 : ∀ y : LaterS [] wq, y.now.cell? ⟨b, o + k * 11 + 4, none⟩ = some (.int .u32 (so_ : Nat)) := fun y => y.bw.cell z4
            cases hb : m.testBit e with
            | true =>
              have hA3 : ms = none := by rw [hA2.out, hb]; rfl
              have hR : R = none := by rw [hM3.out, hA3]; rfl
              rw [hb] at hbI
              clear hA2 hM3 hA3 hb hmp hall
              replace hR := Lib.hid hR
              refine wp_region_gg [] [] [] (by kernel_rfl) ?_
              refine hoist [] [] (a1 := ?_) 0 rfl (by kernel_rfl) (.inl ⟨rfl, rfl⟩) rfl rfl rfl (fun x K hK => ?_) ?_
              rotate_left
              · go_big_quiet_op
                exact hK
              refine hoist [] [] (a1 := ?_) 1 rfl (by kernel_rfl) (.inl ⟨rfl, rfl⟩) rfl rfl rfl (fun x K hK => ?_) ?_
              rotate_left
              · go_big_quiet_op
                exact hK
              refine hoist [] [] (a1 := ?_) 2 rfl (by kernel_rfl) (.inl ⟨rfl, rfl⟩) rfl rfl rfl (fun x K hK => ?_) ?_
              rotate_left
              · go_big_quiet_op
                exact hK
              refine hoist [] [] (a1 := ?_) 3 rfl (by kernel_rfl) (.inl ⟨rfl, rfl⟩) rfl rfl rfl (fun x K hK => ?_) ?_
              rotate_left
              · go_big_quiet_op
                exact hK
              refine hoist [] [] (a1 := ?_) 4 rfl (by kernel_rfl) (.inl ⟨rfl, rfl⟩) rfl rfl rfl (fun x K hK => ?_) ?_
              rotate_left
              · go_big_quiet_op
                exact hK
              refine hoist [] [] (a1 := ?_) 5 rfl (by kernel_rfl) (.inl ⟨rfl, rfl⟩) rfl rfl rfl (fun x K hK => ?_) ?_
              rotate_left
              · go_big_quiet_op
                exact hK
              refine hoist [] [] (a1 := ?_) 6 rfl (by kernel_rfl) (.inl ⟨rfl, rfl⟩) rfl rfl rfl (fun x K hK => ?_) ?_
              rotate_left
              · go_big_quiet_op
                exact hK
              refine hoist_skip [] [] 7 rfl (by kernel_rfl) (.inl ⟨rfl, rfl⟩) rfl (a1 := ?_) ?_ ?_
              rotate_left
              · simp only [Act.put, List.setIfInBounds_toArray, List.set_cons_succ, List.set_cons_zero]; rfl
              refine hoist_skip [] [] 8 rfl (by kernel_rfl) (.inl ⟨rfl, rfl⟩) rfl (a1 := ?_) ?_ ?_
              rotate_left
              · simp only [Act.put, List.setIfInBounds_toArray, List.set_cons_succ, List.set_cons_zero]; rfl
              refine hoist_skip [] [] 9 rfl (by kernel_rfl) (.inl ⟨rfl, rfl⟩) rfl (a1 := ?_) ?_ ?_
              rotate_left
              · simp only [Act.put, List.setIfInBounds_toArray, List.set_cons_succ, List.set_cons_zero]; rfl
              refine hoist_skip [] [] 10 rfl (by kernel_rfl) (.inl ⟨rfl, rfl⟩) rfl (a1 := ?_) ?_ ?_
              rotate_left
              · simp only [Act.put, List.setIfInBounds_toArray, List.set_cons_succ, List.set_cons_zero]; rfl
              refine hoist_skip [] [] 11 rfl (by kernel_rfl) (.inl ⟨rfl, rfl⟩) rfl (a1 := ?_) ?_ ?_
              rotate_left
              · simp only [Act.put, List.setIfInBounds_toArray, List.set_cons_succ, List.set_cons_zero]; rfl
              refine hoist_skip [] [] 12 rfl (by kernel_rfl) (.inl ⟨rfl, rfl⟩) rfl (a1 := ?_) ?_ ?_
              rotate_left
              · simp only [Act.put, List.setIfInBounds_toArray, List.set_cons_succ, List.set_cons_zero]; rfl
              refine hoist_skip [] [] 13 rfl (by kernel_rfl) (.inl ⟨rfl, rfl⟩) rfl (a1 := ?_) ?_ ?_
              rotate_left
              · simp only [Act.put, List.setIfInBounds_toArray, List.set_cons_succ, List.set_cons_zero]; rfl
              refine hoist_skip [] [] 14 rfl (by kernel_rfl) (.inl ⟨rfl, rfl⟩) rfl (a1 := ?_) ?_ ?_
              rotate_left
              · simp only [Act.put, List.setIfInBounds_toArray, List.set_cons_succ, List.set_cons_zero]; rfl
              refine hoist_skip [] [] 15 rfl (by kernel_rfl) (.inl ⟨rfl, rfl⟩) rfl (a1 := ?_) ?_ ?_
              rotate_left
              · simp only [Act.put, List.setIfInBounds_toArray, List.set_cons_succ, List.set_cons_zero]; rfl
              refine hoist_skip [] [] 16 rfl (by kernel_rfl) (.inl ⟨rfl, rfl⟩) rfl (a1 := ?_) ?_ ?_
              rotate_left
              · simp only [Act.put, List.setIfInBounds_toArray, List.set_cons_succ, List.set_cons_zero]; rfl
              refine hoist [] [] (a1 := ?_) 17 rfl (by kernel_rfl) (.inl ⟨rfl, rfl⟩) rfl rfl rfl (fun x K hK => ?_) ?_
              rotate_left
              · go_big_quiet_op
                exact hK
              refine done (by kernel_rfl) (fun xr => ?_)
              have B2 := Lib.hid (B.out.trans xr.bw)
              clear l4 l5 z0 z1 z2 z3 z4 z5 z6 z7 z8 z9 z10 y4
              generalize xr.now = w9 at *
              go_wp2_with fail
              go_ret2
              exact ⟨.inr ⟨hR.out, _, rfl⟩, B2.out⟩
            | false =>
              have hA3 : ms = maskN f (L.drop (k + 1)) (m ||| 2 ^ e) := by rw [hA2.out, hb]; rfl
              rw [hb] at hbI
              replace hA3 := Lib.hid hA3
              replace hb := Lib.hid hb
              clear hA2
              refine wp_region_gg [] [] [] (by kernel_rfl) ?_
              refine hoist [] [] (a1 := ?_) 0 rfl (by kernel_rfl) (.inl ⟨rfl, rfl⟩) rfl rfl rfl (fun x K hK => ?_) ?_
              rotate_left
              · go_big_quiet_op
                exact hK
              refine hoist [] [] (a1 := ?_) 1 rfl (by kernel_rfl) (.inl ⟨rfl, rfl⟩) rfl rfl rfl (fun x K hK => ?_) ?_
              rotate_left
              · go_big_quiet_op
                exact hK
              refine hoist [] [] (a1 := ?_) 2 rfl (by kernel_rfl) (.inl ⟨rfl, rfl⟩) rfl rfl rfl (fun x K hK => ?_) ?_
              rotate_left
              · go_big_quiet_op
                exact hK
              refine hoist [] [] (a1 := ?_) 3 rfl (by kernel_rfl) (.inl ⟨rfl, rfl⟩) rfl rfl rfl (fun x K hK => ?_) ?_
              rotate_left
              · go_big_quiet_op
                exact hK
              refine hoist [] [] (a1 := ?_) 4 rfl (by kernel_rfl) (.inl ⟨rfl, rfl⟩) rfl rfl rfl (fun x K hK => ?_) ?_
              rotate_left
              · go_big_quiet_op
                exact hK
              refine hoist [] [] (a1 := ?_) 5 rfl (by kernel_rfl) (.inl ⟨rfl, rfl⟩) rfl rfl rfl (fun x K hK => ?_) ?_
              rotate_left
              · go_big_quiet_op
                exact hK
              refine hoist [] [] (a1 := ?_) 6 rfl (by kernel_rfl) (.inl ⟨rfl, rfl⟩) rfl rfl rfl (fun x K hK => ?_) ?_
              rotate_left
              · go_big_quiet_op
                exact hK
              refine hoist [] [] (a1 := ?_) 7 rfl (by kernel_rfl) (.inl ⟨rfl, rfl⟩) rfl rfl rfl (fun x K hK => ?_) ?_
              rotate_left
              · go_big_quiet_op
                exact hK
              refine hoist [] [] (a1 := ?_) 8 rfl (by kernel_rfl) (.inl ⟨rfl, rfl⟩) rfl rfl rfl (fun x K hK => ?_) ?_
              rotate_left
              · go_big_quiet_op
                exact hK
              refine hoist [] [] (a1 := ?_) 9 rfl (by kernel_rfl) (.inl ⟨rfl, rfl⟩) rfl rfl rfl (fun x K hK => ?_) ?_
              rotate_left
              · go_big_quiet_op
                exact hK
              refine hoist [] [] (a1 := ?_) 10 rfl (by kernel_rfl) (.inl ⟨rfl, rfl⟩) rfl rfl rfl (fun x K hK => ?_) ?_
              rotate_left
              · go_big_quiet_op
                exact hK
              refine hoist [] [] (a1 := ?_) 11 rfl (by kernel_rfl) (.inl ⟨rfl, rfl⟩) rfl rfl rfl (fun x K hK => ?_) ?_
              rotate_left
              · go_big_quiet_op
                exact hK
              refine hoist [] [] (a1 := ?_) 12 rfl (by kernel_rfl) (.inl ⟨rfl, rfl⟩) rfl rfl rfl (fun x K hK => ?_) ?_
              rotate_left
              · go_big_quiet_op
                exact hK
              refine hoist [] [] (a1 := ?_) 13 rfl (by kernel_rfl) (.inl ⟨rfl, rfl⟩) rfl rfl rfl (fun x K hK => ?_) ?_
              rotate_left
              · go_big_quiet_op
                exact hK
              refine hoist [] [] (a1 := ?_) 14 rfl (by kernel_rfl) (.inl ⟨rfl, rfl⟩) rfl rfl rfl (fun x K hK => ?_) ?_
              rotate_left
              · go_big_quiet_op
                exact hK
              refine hoist [] [] (a1 := ?_) 15 rfl (by kernel_rfl) (.inl ⟨rfl, rfl⟩) rfl rfl rfl (fun x K hK => ?_) ?_
              rotate_left
              · go_big_quiet_op
                exact hK
              refine hoist [] [] (a1 := ?_) 16 rfl (by kernel_rfl) (.inl ⟨rfl, rfl⟩) rfl rfl rfl (fun x K hK => ?_) ?_
              rotate_left
              · go_big_quiet_op
                exact hK
              refine hoist [] [] (a1 := ?_) 17 rfl (by kernel_rfl) (.inl ⟨rfl, rfl⟩) rfl rfl rfl (fun x K hK => ?_) ?_
              rotate_left
              · go_big_quiet_op
                exact hK
              refine done (by kernel_rfl) (fun xr => ?_)
              have B2 := Lib.hid (B.out.trans xr.bw)
              have O2 := Lib.hid (O.out.bw xr.bw)
              have T2 := Lib.hid (cT xr.now xr.bw)
              clear hbI cT
              replace z0 := xr.bw.cell z0
              replace z1 := xr.bw.cell z1
              replace z2 := xr.bw.cell z2
              replace z3 := xr.bw.cell z3
              replace z4 := xr.bw.cell z4
              replace z5 := xr.bw.cell z5
              replace z6 := xr.bw.cell z6
              replace z7 := xr.bw.cell z7
              replace z8 := xr.bw.cell z8
              replace z9 := xr.bw.cell z9
              replace z10 := xr.bw.cell z10
              clear l4 l5 y4
              generalize xr.now = w9 at *
              clear B O
              rw [show ((so_ : Int) != (src : Int)) = !(so_ == src) by (rw [Bool.eq_iff_iff]; simp; omega)]
              cases hss : so_ == src with
              | false =>
                have hR : R = none := by
                  rw [hM3.out, if_neg]
                  rintro ⟨h1, _⟩
                  rw [Bool.and_eq_true] at h1
                  have h2 := hDall.out h1.2
                  rw [hall.out, hss, Bool.and_false] at h2
                  cases h2
                clear hM3 hDall hmp hall
                replace hR := Lib.hid hR
                replace hss := Lib.hid hss
                simp only [Bool.not_false]
                go_wp2_with fail
                go_ret2
                exact ⟨.inr ⟨hR.out, _, rfl⟩, B2.out⟩
              | true =>
                replace hss := Lib.hid hss
                have ha := or_add_pow hm hdd hb.out
                have q3 : (m : Int) + ((2 ^ e : Nat) : Int) = ((m ||| 2 ^ e : Nat) : Int) := by omega
                generalize 2 ^ e = p at *
                generalize m ||| p = m' at *
                clear ha
                simp only [Bool.not_true]
                go_wp2_with fail
                refine Calls.mono T2.out ?_
                rintro e w10 ⟨hT, hb10⟩
                have B10 := Lib.hid (B2.out.trans hb10)
                have O10 := Lib.hid (O2.out.bw hb10)
                clear z0 z1 z2 z3 z4 z5 z6 z7 z8 z9 z10 T2 O2
                rcases hT with ⟨hs, v10, rfl, OT⟩ | ⟨hs, rfl⟩
                · obtain ⟨s10, c10, rfl, hc10, hm10⟩ := OT.len
                  unfold maxLen at hm10
                  have hok : (D.take (k + 1)).all (okD src) = true := by rw [hall.out, hs, hss.out]; rfl
                  have OT10 := OT.up B2.out.size
                  generalize hnt : tx.length = nt at *
                  clear hs hall hDall hss OT hb
                  replace hnt := Lib.hid hnt
                  replace hok := Lib.hid hok
                  dsimp only
                  have BA : BW w10 (w10.alloc (.cells #[.slice s10 nt c10] 22)) := (BW.refl _).alloc
                  have L3 := Lib.hid (Sls.new1 (E := BR) w10 22 [.slice s10 nt c10] rfl)
                  have O9 := Lib.hid (O10.out.bw BA)
                  have OT9 : Hid (BR.R (w10.alloc (.cells #[.slice s10 nt c10] 22)) w.heap.size tx [.slice s10 nt c10]) := Lib.hid ⟨_, rfl, by rw [hnt.out]; exact OT10.bw BA⟩
                  have B9 := Lib.hid (B10.out.trans BA)
                  have hz9 := B9.out.size
                  clear OT10 B10 O10 B2 hb10
                  replace BA := Lib.hid BA
                  go_wp2_with (at_builtin; go_must (refine wpList_apEQ slSS rfl _ _ rfl w.heap.size (.slice so k co) k ((D.take k).map txN) rfl O9.out _ rfl 1 [tx] [.slice s10 nt c10] L3.out (EL.single OT9.out) rfl (by omega) hz9 (O9.out.noB (by decide)) ?_; intro s11 c11 w11 hc11 hm11 O11 T11 hb11 G11; unfold maxLen at hm11; replace O11 := Lib.hid O11; replace T11 := Lib.hid T11; clear G11 hb11))
                  have B12 := Lib.hid (BW.stP B9.out T11.out (fun j hj => O9.out.ge' j (by simpa using hj)))
                  have O12 : Hid (EQ BR 22 w11 w.heap.size (.slice s11 (k + 1) c11) (k + 1) ((D.take (k + 1)).map txN)) := Lib.hid (by rw [hmp.out]; exact O11.out)
                  clear O11 T11 O9 B9 L3 OT9
                  go_wp2_with fail
                  go_roundg (n - (k + 1))
                  case measure => omega
                  case rel => exact ⟨k + 1, m', s11, c11, rfl, by omega, rfl, ho, rfl, hm11, by push_cast; rfl, hA3, hok, O12, B12⟩
                · have hR : R = none := by
                    rw [hM3.out, if_neg]
                    rintro ⟨h1, _⟩
                    rw [Bool.and_eq_true] at h1
                    have h2 := hDall.out h1.2
                    rw [hall.out, hs] at h2
                    cases h2
                  clear hM3 hDall hmp hall hs
                  replace hR := Lib.hid hR
                  dsimp only
                  go_wp2_with fail
                  go_ret2
                  exact ⟨.inr ⟨hR.out, _, rfl⟩, B10.out⟩
          · obtain rfl : k = n := by omega
            have d4 : decide ((k : Int) < (k : Int)) = false := by simp
            have htk : D.take k = D := List.take_of_length_le (by rw [hdl.out]; exact Nat.le_refl _)
            rw [htk] at O hal
            have hA2 : ms = some m := by rw [hA.out, List.drop_of_length_le (by rw [hsl.out]; exact Nat.le_refl _)]; rfl
            have hM4 := hM3.out
            rw [hA2, hal.out] at hM4
            simp only [Option.isSome_some, Option.getD_some, Bool.true_and, true_and] at hM4
            have hlm : (outN D f m).length = 4 + (xorR (D.map txN)).length := by
              unfold outN; simp only [List.length_append, putB_len]
            have hOd : outN D f m = (putB 2 f ++ putB 2 m) ++ xorR (D.map txN) := rfl
            generalize outN D f m = OUT at *
            have hrw : ∀ r ∈ D.map txN, r.length ≤ 1202 := fun r hr => by
              obtain ⟨d, _, rfl⟩ := List.mem_map.1 hr
              exact txN_le d
            have hxl := xorR_le hrw (a := []) (Nat.zero_le _)
            have cX := fun wz (hb : BW wr wz) => Lib.hid (refXor_any (.slice so k co) k (D.map txN) wz (O.out.bw hb).sm (fun r hr => Nat.le_trans (hrw r hr) (by omega)) hn)
            change (xorR (D.map txN)).length ≤ 1202 at hxl
            generalize xorR (D.map txN) = X at *
            generalize hXl : X.length = nX at *
            have hiv : ivA .u8 (putB 2 f ++ putB 2 m) = #[.int .u8 ((f : Int) / 256), .int .u8 ((f : Int) % 256), .int .u8 ((m : Int) / 256), .int .u8 ((m : Int) % 256)] := by rw [put2 f hf16, put2 m hm]; rfl
            have O3 := OB.new wr w.heap.size (putB 2 f ++ putB 2 m) 4 B.out.size (by simp [putB_len]) (by decide) (fun x hx => (List.mem_append.1 hx).elim (putB_byt _ _ x) (putB_byt _ _ x))
            rw [hiv] at O3
            have BA : BW wr (wr.alloc (.cells #[.int .u8 ((f : Int) / 256), .int .u8 ((f : Int) % 256), .int .u8 ((m : Int) / 256), .int .u8 ((m : Int) % 256)] 5)) := (BW.refl _).alloc
            have cX1 := cX _ BA
            have B3 := Lib.hid (B.out.trans BA)
            clear cX hrw hM3 hA2 htk hA hal hiv BA O B
            replace hM4 := Lib.hid hM4
            replace hlm := Lib.hid hlm
            replace hOd := Lib.hid hOd
            replace O3 := Lib.hid O3
            replace hXl := Lib.hid hXl
            obtain ⟨wq, rfl⟩ : ∃ y, y = wr := ⟨_, rfl⟩
            go_wp2_with fail
            refine Calls.mono cX1.out ?_
            rintro e w5 ⟨u5, rfl, S5, hb5⟩
            clear cX1
            have O5 := Lib.hid (O3.out.bw hb5)
            have B5 := Lib.hid (B3.out.trans hb5)
            have hz5 := B5.out.size
            obtain ⟨s5, c5, rfl, hc5, hm5⟩ := S5.len
            have S6 := Lib.hid S5.sb
            unfold maxLen at hm5
            clear O3 B3 hb5 S5
            dsimp only
            go_wp2_with (at_builtin; go_must (refine wpList_apOB rfl _ _ rfl w.heap.size _ 4 _ rfl O5.out _ rfl nX _ S6.out (by omega) hz5 ?_; intro s7 c7 w7 hc7 hm7 O7 T7 B7 G7; unfold maxLen at hm7; replace O7 := Lib.hid O7; replace T7 := Lib.hid T7; clear G7 B7))
            have B8 := Lib.hid (BW.stP B5.out T7.out (fun j hj => O5.out.ge' j (Option.mem_toList.1 hj)))
            clear O5 B5 S6 T7
            rw [hOd.out.symm] at O7
            by_cases hle : 4 + nX ≤ 1200
            · have d5 : decide (4 + (nX : Int) ≤ 1200) = true := by simp; omega
              have hR := hM4.out
              rw [hlm.out, if_pos hle] at hR
              replace hR := Lib.hid hR
              rw [d5]
              go_wp2_with fail
              go_ret2
              refine ⟨.inl ⟨_, _, hR.out, rfl, ?_⟩, B8.out⟩
              rw [hlm.out]; exact O7.out
            · have d5 : decide (4 + (nX : Int) ≤ 1200) = false := by simp; omega
              have hR := hM4.out
              rw [hlm.out, if_neg hle] at hR
              replace hR := Lib.hid hR
              rw [d5]
              go_wp2_with fail
              go_ret2
              exact ⟨.inr ⟨hR.out, _, rfl⟩, B8.out⟩
end Go.Proofs.Ytgiajnfmjpdodaa
