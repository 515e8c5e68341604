/- A packet of media that came in as plain data. No condition. -/
import Derived.Test.YtikmhlbpefednaaGreatGRc
import Derived.Test.YtikmhlbpefednaaGreatGRa
namespace Go.Proofs.YtikmhlbpefednaaGreat
open Go.RowKit
abbrev rtpTy : Ty := .scope (.seq .ret (.seq (.label 4) (.seq (.label 5) (.seq (.label 6) (.seq (.label 6) (.seq (.loop (.label 6)) (.seq .ret (.seq (.label 5) (.seq (.loop (.label 4)) (.seq (.loop (.label 4)) (.seq (.label 4) .skip)))))))))))
theorem Rd.sl {w : World} {e : Ty} {cs : List Value} (h : Rd w (.loop e) cs) : ∃ sa ln cp, cs = [.slice sa ln cp] := by
 rcases h with rfl | ⟨a, len, cap, rfl, _⟩
 ·exact ⟨_, _, _, rfl⟩
 ·exact ⟨_, _, _, rfl⟩
theorem U32_of_Rd {w : World} {sa : Option Addr} {ln cp : Nat} (h : Rd w (.loop (.label 6)) [.slice sa ln cp]) : ∃ l : List Nat, (∀ x ∈ l, x < 4294967296) ∧ l.length = ln ∧ NB w .u32 (.slice sa ln cp) ln (nz l) := by
 obtain ⟨h1, h2, h3⟩ := Rd.slice_at h (by decide)
 refine ⟨(List.range ln).map fun i => match sa with | some x => (intOf ((w.cell? ⟨x.block, x.off + i, none⟩).getD undef)).toNat | none => 0, ?_, by simp, by simp [nz], by rw [nvs_len]; simp [nz], Nat.le_trans h1 h2, ?_⟩
 ·intro x hx
  obtain ⟨i, hi, rfl⟩ := List.mem_map.1 hx
  have hi := List.mem_range.1 hi
  rcases h3 with ⟨_, h, _⟩ | ⟨_, h, _⟩ | ⟨b, o, rfl, hb, hc, hcell⟩
  ·omega
  ·omega
  ·obtain ⟨cs, hl, ⟨n, rfl, hw⟩, hx⟩ := hcell i (by omega)
   have e0 := hx 0 (by decide)
   have e0' : w.cell? ⟨b, o + i, none⟩ = some (.int .u32 n) := by simpa [tsize, kd] using e0
   dsimp only
   rw [e0']
   have hb := bounds_u32 hw
   show n.toNat < 4294967296
   omega
 ·rcases h3 with ⟨_, h, h'⟩ | ⟨h', h, hh⟩ | ⟨b, o, rfl, hb, hc, hcell⟩
  ·subst h
   exact .inl ⟨rfl, sa, cp, rfl, fun _ => h', h2⟩
  ·subst h
   exact .inl ⟨rfl, sa, cp, rfl, fun hn => by (obtain ⟨x, hx⟩ := hh; rw [hx] at hn; cases hn), h2⟩
  ·refine .inr ⟨b, o, cp, rfl, h1, h2, hb, fun i hi => ?_⟩
   obtain ⟨cs, hl, ⟨n, rfl, hw⟩, hx⟩ := hcell i (by omega)
   have e0 := hx 0 (by decide)
   have e0' : w.cell? ⟨b, o + i, none⟩ = some (.int .u32 n) := by simpa [tsize, kd] using e0
   have hb := bounds_u32 hw
   have hi' : i < ln := by omega
   rw [e0', nvs_get _ _ _ (by simp [nz]; omega)]
   simp only [nz, List.getD_eq_getElem?_getD, List.getElem?_map, List.getElem?_range hi', Option.map_some, Option.getD_some, e0', intOf]
   congr 2
   omega
theorem RtpV_of_Rd {w : World} {cs : Array Value} (h : Rd w rtpTy cs.toList) : ∃ d, RtpV w cs d ∧ RtpWf d := by
 obtain ⟨c0, r0, e0, ⟨mk, rfl⟩, h⟩ := h
 obtain ⟨c1, r1, rfl, ⟨ty, rfl, w1⟩, h⟩ := h
 obtain ⟨c2, r2, rfl, ⟨sq, rfl, w2⟩, h⟩ := h
 obtain ⟨c3, r3, rfl, ⟨st, rfl, w3⟩, h⟩ := h
 obtain ⟨c4, r4, rfl, ⟨so, rfl, w4⟩, h⟩ := h
 obtain ⟨c5, r5, rfl, k5, h⟩ := h
 obtain ⟨s1, n1, p1, rfl⟩ := k5.sl
 obtain ⟨c6, r6, rfl, ⟨xb, rfl⟩, h⟩ := h
 obtain ⟨c7, r7, rfl, ⟨pf, rfl, w7⟩, h⟩ := h
 obtain ⟨c8, r8, rfl, k8, h⟩ := h
 obtain ⟨s2, n2, p2, rfl⟩ := k8.sl
 obtain ⟨c9, r9, rfl, k9, h⟩ := h
 obtain ⟨s3, n3, p3, rfl⟩ := k9.sl
 obtain ⟨c10, r10, rfl, ⟨pd, rfl, w10⟩, h⟩ := h
 have hr : r10 = [] := h
 subst hr
 have b1 := bounds_u8 w1
 have b2 := bounds_u16 w2
 have b3 := bounds_u32 w3
 have b4 := bounds_u32 w4
 have b7 := bounds_u16 w7
 have b10 := bounds_u8 w10
 obtain ⟨ot, ho, hol, hN⟩ := U32_of_Rd k5
 obtain ⟨ex, hE⟩ := SB_of_Rd k8
 obtain ⟨pl, hP⟩ := SB_of_Rd k9
 obtain ⟨ty, rfl⟩ := Int.eq_ofNat_of_zero_le b1.1
 obtain ⟨sq, rfl⟩ := Int.eq_ofNat_of_zero_le b2.1
 obtain ⟨st, rfl⟩ := Int.eq_ofNat_of_zero_le b3.1
 obtain ⟨so, rfl⟩ := Int.eq_ofNat_of_zero_le b4.1
 obtain ⟨pf, rfl⟩ := Int.eq_ofNat_of_zero_le b7.1
 obtain ⟨pd, rfl⟩ := Int.eq_ofNat_of_zero_le b10.1
 have hEl := hE.1
 have hPl := hP.1
 subst hol hEl hPl
 refine ⟨⟨mk, ty, sq, st, so, ot, xb, pf, ex, pl, pd⟩, ⟨_, _, _, ?_, hN, hE, hP⟩, ⟨by show ty < 256; omega, by show sq < 65536; omega, by show st < 4294967296; omega, by show so < 4294967296; omega, ho, by show pf < 65536; omega, hE.2.1, hP.2.1, by show pd < 256; omega⟩⟩
 apply Array.ext'
 rw [e0]
 rfl
end Go.Proofs.YtikmhlbpefednaaGreat
