/- Covers of packets: the numbers that lack. No condition but the sizes'. -/
import Derived.Test.YtgiajnfmjpdodaaFeR
namespace Go.Proofs.Ytgiajnfmjpdodaa
open Go.RowKit

theorem zero16 (w : World) : (zeroValue 24).run Try.prog w = .ok (.int .u16 0) w := by kernel_rfl
def DelPost (D : List RtpD) (L : List Nat) (base : Nat) (w0 : World) (e : Ending) (w' : World) : Prop :=
  ∃ v, e = .returned v ∧ EQ I16 24 w' base v (L.filter fun x => !(hasS D x)).length (L.filter fun x => !(hasS D x)) ∧ BW w0 w'
theorem set_step {M L : List Nat} {i j m : Nat} {t : Nat} (hM : M.length = m) (hi : i < j) (hjm : j < m) {F : List Nat} (h1 : M.take i = F) (h2 : M.drop j = L.drop j) : (M.set i t).take (i + 1) = F ++ [t] ∧ (M.set i t).drop (j + 1) = L.drop (j + 1) := by
  constructor
  · rw [List.take_set, List.take_succ_eq_append_getElem (by omega), h1, List.set_append_right _ _ (by rw [← h1, List.length_take]; omega)]
    have : i - F.length = 0 := by rw [← h1, List.length_take]; omega
    rw [this]; rfl
  · rw [List.drop_set, if_pos (by omega), ← List.drop_drop, h2, List.drop_drop]
set_option maxRecDepth 100000 in
set_option maxHeartbeats 8000000 in
theorem del_any (base : Nat) (v : Value) (m : Nat) (L : List Nat) (sa : Option Addr) (n cap : Nat) (D : List RtpD) (lb : Nat) (w0 w : World) (hB : BW w0 w) (hbase : w0.heap.size ≤ base) (hq : EQ I16 24 w base v m L) (hm0 : m ≤ 1000000) (h : RL w0 (.slice sa n cap) n D) (hn : n ≤ 1000000) (hx : w0.cell? ⟨lb, 0, none⟩ = some (.slice sa n cap)) :
    Calls Try.prog 87 #[v, .func (.func 89) #[] #[.pointer (some ⟨lb, 0, none⟩)]] w (DelPost D L base w0) := by
  unfold DelPost
  obtain ⟨sv, cv, rfl, hnc, hcm⟩ := hq.len
  unfold maxLen at hcm
  have hdl := Lib.hid hq.1
  have cI := Lib.hid (idxhas_any base (.slice sv m cv) m L sa n cap D lb w hq hm0 (h.bw hB) hn (hB.cell hx))
  unfold IxPost at cI
  have cF := fun (s : Nat) wz (hb : BW w0 wz) => Lib.hid (has_any sa n cap D s lb wz (h.bw hb) hn (hb.cell hx))
  generalize hasS D = p at *
  clear h hx
  replace hq := Lib.hid hq
  replace cF := Lib.hid cF
  replace hB := Lib.hid hB
  go_enter Try.func87, Try.ntmps87
  go_wp2_with fail
  refine Calls.mono cI.out ?_
  rintro e w1 ⟨hr, hb⟩
  have Q1 := Lib.hid (hq.out.bw hb)
  have B1 := Lib.hid (hB.out.trans hb)
  clear cI hb hq hB
  rcases hr with ⟨rfl, hf⟩ | ⟨i, hi, rfl, hf⟩
  · have hR : L.filter (fun x => !(p x)) = L := List.filter_eq_self.2 fun x hx => by
      have := List.filter_eq_nil_iff.1 hf x hx
      cases hp : p x with
      | true => exact absurd hp this
      | false => rfl
    replace hf := Lib.hid hf
    replace hR := Lib.hid hR
    dsimp only
    go_wp2_with fail
    go_ret
    rw [hR.out]
    exact ⟨_, rfl, Q1.out.full, B1.out⟩
  · obtain ⟨g, o, cv', he, hgb, hgw, -, -, -⟩ := Q1.out.form (by rw [← hdl.out]; omega)
    cases he
    rw [hdl.out] at hi
    have d0 : ((i : Int) == -1) = false := by rw [beq_eq_false_iff_ne]; omega
    replace hf := Lib.hid hf
    dsimp only
    go_upto_region 5 with (fail)
    go_loopg [5, 6] (m - (i + 1)) (fun m' iv jv wx => ∃ (i' j : Nat) (M : List Nat), m' = m - j ∧ j ≤ m ∧ i' < j ∧ iv = .int .i64 (i' : Nat) ∧ jv = .int .i64 (j : Nat) ∧ Hid (M.take i' = (L.take j).filter fun x => !(p x)) ∧ Hid (M.drop j = L.drop j) ∧ Hid (EQ I16 24 wx base (.slice (some ⟨g, o, none⟩) m cv) m M) ∧ Hid (BW w0 wx))
    case atStart => exact ⟨i, i + 1, L, rfl, by omega, by omega, rfl, by push_cast; rfl, hf.out.symm, rfl, Q1, B1⟩
    case round =>
      clear Q1 B1 d0 hf
      obtain ⟨i', j, M, rfl, hj, hij, rfl, rfl, hM1, hM2, Q, B⟩ := hrel
      have hMl := Q.out.1
      by_cases hjm : j < m
      · have d : decide ((j : Int) < (m : Int)) = true := by simp; omega
        obtain ⟨g2, o2, he, hc⟩ := i16_form Q.out (by omega)
        cases he
        have z := hc j (by omega)
        have z2 := hc i' (by omega)
        have hMj : M[j]'(by omega) = L[j]'(by rw [hdl.out]; exact hjm) := by
          have h1 : M[j]? = L[j]? := by
            have := congrArg (fun l : List Nat => l[0]?) hM2.out
            simpa using this
          rw [List.getElem?_eq_getElem (by omega), List.getElem?_eq_getElem (by rw [hdl.out]; exact hjm)] at h1
          exact Option.some.inj h1
        have htk : (L.take (j + 1)) = L.take j ++ [L[j]'(by rw [hdl.out]; exact hjm)] := List.take_succ_eq_append_getElem (by rw [hdl.out]; exact hjm)
        rw [hMj] at z
        generalize (L[j]'(by rw [hdl.out]; exact hjm)) = t at *
        generalize M[i']'(by omega) = told at *
        have cF1 := cF.out t wr B.out
        have hfl : (L.take (j + 1)).filter (fun x => !(p x)) = (L.take j).filter (fun x => !(p x)) ++ if p t = true then [] else [t] := by
          rw [htk, List.filter_append]
          cases hp : p t <;> simp [hp]
        have hdr : p t = true → M.drop (j + 1) = L.drop (j + 1) := fun _ => by rw [← List.drop_drop, hM2.out, List.drop_drop]
        have hfz := Q.out.frz (by omega)
        clear hc htk hMj
        replace hfl := Lib.hid hfl
        replace hdr := Lib.hid hdr
        replace hfz := Lib.hid hfz
        replace hMl := Lib.hid hMl
        go_wp2_with fail
        refine Calls.mono cF1.out ?_
        rintro e w2 ⟨rfl, hb⟩
        have B2 := Lib.hid (B.out.trans hb)
        have Q2 := Lib.hid (Q.out.bw hb)
        have y2 := hb.cell z2
        have y3 := Q2.out.frz (by omega) (o + i')
        clear cF1 hb z z2 B Q hfz
        dsimp only
        cases hp : p t with
        | true =>
          have hM3 : M.take i' = (L.take (j + 1)).filter fun x => !(p x) := by rw [hfl.out, hp, if_pos rfl, List.append_nil]; exact hM1.out
          have hM4 := hdr.out hp
          replace hp := Lib.hid hp
          replace hM3 := Lib.hid hM3
          replace hM4 := Lib.hid hM4
          clear y2 y3 d
          go_wp2_with fail
          go_roundg (m - (j + 1))
          case measure => omega
          case rel => exact ⟨i', j + 1, M, rfl, by omega, by omega, rfl, by push_cast; rfl, hM3, hM4, Q2, B2⟩
        | false =>
          have hst := set_step (t := t) hMl.out hij hjm hM1.out hM2.out
          have hM3 : (M.set i' t).take (i' + 1) = (L.take (j + 1)).filter fun x => !(p x) := by rw [hst.1, hfl.out, hp]; rfl
          have hM4 := hst.2
          have Q3 := Lib.hid (Q2.out.set1 (u := .int .u16 (t : Nat)) (a := t) rfl trivial rfl i' (by omega))
          have B3 := Lib.hid (B2.out.set (g := g) (o := o + i') (v := .int .u16 (t : Nat)) (by omega))
          clear hst
          replace hp := Lib.hid hp
          replace hM3 := Lib.hid hM3
          replace hM4 := Lib.hid hM4
          clear d
          go_wp2_with fail
          clear y2 y3
          go_roundg (m - (j + 1))
          case measure => omega
          case rel => exact ⟨i' + 1, j + 1, M.set i' t, rfl, by omega, by omega, by push_cast; rfl, by push_cast; rfl, hM3, hM4, Q3, B3⟩
      · obtain rfl : j = m := by omega
        have d : decide ((j : Int) < (j : Int)) = false := by simp
        have hR : M.take i' = L.filter fun x => !(p x) := by rw [hM1.out, List.take_of_length_le (by rw [hdl.out]; exact Nat.le_refl _)]
        have hl : (L.filter fun x => !(p x)).length = i' := by rw [← hR, List.length_take]; omega
        obtain ⟨g2, o2, he, hc⟩ := i16_form Q.out (by omega)
        cases he
        have hfz := Q.out.frz (by omega)
        have hcl : ∀ ty, (Builtin.clear_ #[114] ty #[.slice (some ⟨g, o + i', none⟩) (j - i') (cv - i')]).run Try.prog wr = .ok (.tuple #[]) (wr.setCells g (o + i') (List.replicate (j - i') (.int .u16 0))) :=
          fun ty => Lib.run_clear_slice wr 114 24 ty (.int .u16 0) Try.underlying114 zero16 rfl rfl g (o + i') (j - i') (cv - i') (by omega) (fun t ht => by rw [show o + i' + t = o + (i' + t) by omega, hc (i' + t) (by omega)]; rfl) (fun t ht => hfz _)
        have Q2 := Lib.hid ((Q.out.takeN i' (by omega)).behind trivial (List.replicate (j - i') (.int .u16 0)) (o + i') (by show o + i' * 1 ≤ o + i'; omega))
        have B2 := Lib.hid (B.out.stP (still_setCells g (List.replicate (j - i') (.int .u16 0)) (o + i') wr) (by simp; omega))
        have hic : i' < cv := by omega
        clear hc hfz hMl Q B
        rw [hR] at Q2
        replace hR := Lib.hid hR
        replace hl := Lib.hid hl
        go_wp2_with (simp only [hcl])
        go_ret
        rw [hl.out]
        exact ⟨_, rfl, Q2.out, B2.out⟩
end Go.Proofs.Ytgiajnfmjpdodaa
