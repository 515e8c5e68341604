/- An egress: the document's example. No condition. -/
import Derived.Test.YtojedpahaifjgaaEsP
import Derived.Test.YtojedpahaifjgaaEsQ
namespace Go.Proofs.Ytojedpahaifjgaa
open Go.RowKit
def esW1 : Wr := ⟨true, 5, 0, 0, 100, 0, 0, true, 100, 0, 0⟩
def esW2 : Wr := ⟨true, 5, 0, 0, 100, 0, 0, true, 102, 0, 0⟩
theorem es_p1 : pushN 1 0 (-1) 0 true 100 Wr.zero 5 0 0 = (some (100, 0, 0), true, 0, esW1) := by kernel_rfl
theorem es_p2 : pushN 1 0 0 0 true 100 esW1 7 0 0 = (some (102, 0, 0), false, 0, esW2) := by kernel_rfl
theorem zero_ok (first : Int) (h : 0 ≤ first ∧ first ≤ 576460752303423488) : Wr.zero.Ok first := ⟨(fun h => by cases h), by decide, by decide, fun _ => rfl, h⟩
theorem plain_push (g gc gr gb : Nat) (src first many wanted goes layer : Int) (W : Wr) (pl i : Int) (mk : Bool) (ty sq st so : Int) (so_ : Option Addr) (no co : Nat) (xb : Bool) (pf : Int) (se : Option Addr) (ne ce : Nat) (sp : Option Addr) (np cp : Nat) (pd : Int) (hi : i ≤ 1152921504606846976) (hW : W.Ok first) (y n1 n2 : Int) (tu : Bool) (gl : Int) (W' : Wr) (hN : pushN many wanted goes layer true first W i st 0 = (some (y, n1, n2), tu, gl, W')) (w : World) (hgc : gc ≠ g) (h : HpB w g (.cells (egW gc (fnV 69) (fnV 68) src first W gr gb) 57)) (hC : HpB w gc (.cells (chC many wanted goes) 112)) :
  Calls Try.prog 11 #[.pointer (some ⟨g, 0, none⟩), .int .i64 layer, .agg (arC pl i mk ty sq st so (.slice so_ no co) xb pf (.slice se ne ce) (.slice sp np cp) pd)] w fun e w' => e = .returned (.tuple #[.agg (snC y mk ty (IntKind.u16.wrap y) n1 src (.slice none 0 0) xb pf (.slice se ne ce) (.slice sp np cp) pd tu), .bool true]) ∧ HpB w' g (.cells (egW gc (fnV 69) (fnV 68) src first W' gr gb) 57) ∧ HpB w' gc (.cells (chC many wanted gl) 112) ∧ Still [gc, g] w w' := by
 refine (push_any g gc gr gb _ _ src first many wanted goes layer true false 0 (fun _ _ _ => True) W pl i mk ty sq st so so_ no co xb pf se ne ce sp np cp pd hi hW w hgc h hC (fkC_enter 0 (by decide)) (fpC_enter 0 (by decide)) (fun y _ => (keyP_any _ y).mono fun _ _ ⟨k1, k2⟩ => ⟨k1, by rw [k2]; exact BW.refl _⟩) (fun y _ => (picP_any _ y).mono fun _ _ ⟨k1, k2⟩ => ⟨k1, by rw [k2]; exact BW.refl _⟩) (fun h => by cases h) (fun _ _ _ _ _ _ _ _ => trivial)).mono ?_
 rw [hN]
 rintro e w' ⟨hE, h1, h2, h3⟩
 refine ⟨?_, h1, h2, h3⟩
 rcases hE with ⟨k, -⟩ | ⟨y', m1, m2, v, k, he, hv, -⟩
 ·cases k
 ·cases k
  rw [he, hv rfl]
set_option maxRecDepth 100000 in
set_option maxHeartbeats 8000000 in
theorem es_alive (w : World) : Calls Try.prog 6 #[] w fun e w' => e = .returned (.bool true) ∧ BW w w' := by
 have cN := egnew_0 77 1 100 4 100 10 (by omega) (by omega) (by omega) (by omega) (by omega) w
 unfold limC at cN
 replace cN := Lib.hid cN
 obtain ⟨yA, hyA⟩ : ∃ y : Int, y = 100 := ⟨_, rfl⟩
 obtain ⟨yB, hyB⟩ : ∃ y : Int, y = 102 := ⟨_, rfl⟩
 obtain ⟨tA, htA⟩ : ∃ t : Bool, t = true := ⟨_, rfl⟩
 obtain ⟨tB, htB⟩ : ∃ t : Bool, t = false := ⟨_, rfl⟩
 obtain ⟨sA, hsA⟩ : ∃ y : Int, IntKind.u16.wrap yA = y := ⟨_, rfl⟩
 obtain ⟨sB, hsB⟩ : ∃ y : Int, IntKind.u16.wrap yB = y := ⟨_, rfl⟩
 have p1 : pushN 1 0 (-1) 0 true 100 Wr.zero 5 0 0 = (some (yA, 0, 0), tA, 0, esW1) := by rw [hyA, htA]; exact es_p1
 have p2 : pushN 1 0 0 0 true 100 esW1 7 0 0 = (some (yB, 0, 0), tB, 0, esW2) := by rw [hyB, htB]; exact es_p2
 replace hyA := Lib.hid hyA
 replace hyB := Lib.hid hyB
 replace htA := Lib.hid htA
 replace htB := Lib.hid htB
 replace hsA := Lib.hid hsA
 replace hsB := Lib.hid hsB
 replace p1 := Lib.hid p1
 replace p2 := Lib.hid p2
 go_enter Try.func6, Try.ntmps6
 go_wp2_with fail
 refine Calls.mono cN.out ?_
 rintro e w1 ⟨g, gc, gr, gb, rfl, hge, E1, hb⟩
 have Hp := Lib.hid E1.hp
 have Ch := Lib.hid E1.ch
 have B1 := Lib.hid hb
 have hgc := hp_ne E1.ch E1.hp (by decide)
 replace hge := Lib.hid hge
 replace hgc := Lib.hid hgc
 clear hb cN E1
 dsimp only
 have z0 := (hp_cell Hp.out 0).trans (show _ = some (.pointer (some ⟨gc, 0, none⟩)) from rfl)
 have cW := Lib.hid (want_any gc 1 (-1) (-1) 0 w1 Ch.out)
 go_wp2_with fail
 refine Calls.mono cW.out ?_
 rintro e w2 ⟨rfl, C2, T2⟩
 have H2 := Lib.hid (Hp.out.st T2 (by simpa using fun e => hgc.out e.symm))
 have B2 := Lib.hid (BW.stP B1.out T2 (fun k hk => by obtain rfl : k = gc := (by simpa using hk); exact hge.out.2.1))
 have hW : wantN 1 (-1) (-1) 0 = (0, 0, -1) := by decide
 rw [hW] at C2 ⊢
 replace C2 := Lib.hid C2
 clear T2 cW Hp Ch B1 hW z0
 dsimp only
 have cP := plain_push g gc gr gb 77 100 1 0 (-1) 0 Wr.zero 0 5 false 0 5 0 1 none 0 0 false 0 none 0 0 none 0 0 0 (by omega) (zero_ok 100 (by decide)) yA 0 0 tA 0 esW1 p1.out w2 hgc.out H2.out C2.out
 unfold arC snC at cP
 rw [hsA.out] at cP
 replace cP := Lib.hid cP
 go_wp2_with fail
 refine Calls.mono cP.out ?_
 rintro e w3 ⟨rfl, H3, C3, T3⟩
 have B3 := Lib.hid (BW.stP B2.out T3 (fun k hk => by rcases (by simpa using hk : k = gc ∨ k = g) with rfl | rfl; exact hge.out.2.1; exact hge.out.1))
 replace H3 := Lib.hid H3
 replace C3 := Lib.hid C3
 clear T3 cP B2 H2 C2
 dsimp only
 have BC : BW w3 (w3.alloc (.cells #[.int .i64 yA, .bool false, .int .u8 0, .int .u16 sA, .int .u32 0, .int .u32 77, .slice none 0 0, .bool false, .int .u16 0, .slice none 0 0, .slice none 0 0, .int .u8 0, .bool tA] 60)) := (BW.refl _).alloc
 have X4 := Lib.hid (HpB.new w3 (.cells #[.int .i64 yA, .bool false, .int .u8 0, .int .u16 sA, .int .u32 0, .int .u32 77, .slice none 0 0, .bool false, .int .u16 0, .slice none 0 0, .slice none 0 0, .int .u8 0, .bool tA] 60))
 have H4 := Lib.hid (H3.out.bw BC)
 have C4 := Lib.hid (C3.out.bw BC)
 have B4 := Lib.hid (B3.out.trans BC)
 clear H3 C3 B3
 replace BC := Lib.hid BC
 go_upto_region 6 with (fail)
 generalize (w3.alloc (.cells #[.int .i64 yA, .bool false, .int .u8 0, .int .u16 sA, .int .u32 0, .int .u32 77, .slice none 0 0, .bool false, .int .u16 0, .slice none 0 0, .slice none 0 0, .int .u8 0, .bool tA] 60)) = w4 at *
 generalize w3.heap.size = gs at *
 have cP := plain_push g gc gr gb 77 100 1 0 0 0 esW1 0 7 false 0 7 0 1 none 0 0 false 0 none 0 0 none 0 0 0 (by omega) ⟨fun _ => by decide, by decide, by decide, (fun h => by cases h), by decide⟩ yB 0 0 tB 0 esW2 p2.out w4 hgc.out H4.out C4.out
 unfold arC snC at cP
 rw [hsB.out] at cP
 have hXE := hp_ne X4.out H4.out (by decide)
 have hXC := hp_ne X4.out C4.out (by decide)
 replace cP := Lib.hid cP
 replace hXE := Lib.hid hXE
 replace hXC := Lib.hid hXC
 go_wp2_with fail
 refine Calls.mono cP.out ?_
 rintro e w5 ⟨rfl, H5, C5, T5⟩
 have B5 := Lib.hid (BW.stP B4.out T5 (fun k hk => by rcases (by simpa using hk : k = gc ∨ k = g) with rfl | rfl; exact hge.out.2.1; exact hge.out.1))
 have X5 := Lib.hid (X4.out.st T5 (by
  have h1 := hXC.out
  have h2 := hXE.out
  simp [h1, h2]))
 clear T5 cP B4 H4 C4 X4 H5 C5
 dsimp only
 have BC : BW w5 (w5.alloc (.cells #[.int .i64 yB, .bool false, .int .u8 0, .int .u16 sB, .int .u32 0, .int .u32 77, .slice none 0 0, .bool false, .int .u16 0, .slice none 0 0, .slice none 0 0, .int .u8 0, .bool tB] 60)) := (BW.refl _).alloc
 have Y6 := Lib.hid (HpB.new w5 (.cells #[.int .i64 yB, .bool false, .int .u8 0, .int .u16 sB, .int .u32 0, .int .u32 77, .slice none 0 0, .bool false, .int .u16 0, .slice none 0 0, .slice none 0 0, .int .u8 0, .bool tB] 60))
 have B6 := Lib.hid (B5.out.trans BC)
 have X6 := Lib.hid (X5.out.bw BC)
 clear B5 X5
 replace BC := Lib.hid BC
 go_upto_region 7 with (fail)
 generalize (w5.alloc (.cells #[.int .i64 yB, .bool false, .int .u8 0, .int .u16 sB, .int .u32 0, .int .u32 77, .slice none 0 0, .bool false, .int .u16 0, .slice none 0 0, .slice none 0 0, .int .u8 0, .bool tB] 60)) = w6 at *
 generalize w5.heap.size = gt at *
 have e1 : yA = 100 := hyA.out
 have e2 : yB = 102 := hyB.out
 subst e1 e2
 have e3 : sA = 100 := by rw [← hsA.out]; decide
 subst e3
 have z0 := (hp_cell X6.out 0).trans (show _ = some (.int .i64 100) from rfl)
 have z3 := (hp_cell X6.out 3).trans (show _ = some (.int .u16 100) from rfl)
 have z5 := (hp_cell X6.out 5).trans (show _ = some (.int .u32 77) from rfl)
 have y0 := (hp_cell Y6.out 0).trans (show _ = some (.int .i64 102) from rfl)
 clear hyA hyB hsA hsB p1 p2
 go_wp2_with fail
 go_ret
 exact ⟨rfl, B6.out⟩
end Go.Proofs.Ytojedpahaifjgaa
