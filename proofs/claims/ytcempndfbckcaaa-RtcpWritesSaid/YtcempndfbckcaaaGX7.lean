/- The reference's Same of two packets with the same content, wherever their lists lie. No condition but the sizes'. Control packets that came in as an argument. No condition. law 11's Great: what isn't great is small. No condition but the sizes'. The reference's Sames of two lists with the same content. No condition but the sizes'. -/
import Derived.Test.YtcempndfbckcaaaGX2
import Derived.Test.YtcempndfbckcaaaGX6
import Derived.Test.YtcempndfbckcaaaGBa
import Derived.Test.YtcempndfbckcaaaGX4
namespace Go.Proofs.Ytcempndfbckcaaa
open Go.RowKit
set_option maxRecDepth 100000 in
set_option maxHeartbeats 8000000 in
theorem csame_all (k : Int) (s m t st pk oc rt : Nat) (ar an as_ al af br bn bs bl bf : Option Addr) (nr nn ns nl nf cr cn cs cl_ cf dr dn ds dl df : Nat) (reps : List Rep) (nams : List (Nat × List Nat)) (srcs : List Nat) (loss firs : List (Nat × Nat)) (hn : nr ≤ 1000 ∧ nn ≤ 1000 ∧ ns ≤ 1000 ∧ nl ≤ 1000 ∧ nf ≤ 1000) (w : World)
  (a1 : SQ ER w 0 (.slice ar nr cr) nr reps) (a2 : SQ EM w 0 (.slice an nn cn) nn nams) (a3 : SQ ES w 0 (.slice as_ ns cs) ns srcs) (a4 : SQ EO w 0 (.slice al nl cl_) nl loss) (a5 : SQ EF w 0 (.slice af nf cf) nf firs)
  (b1 : SQ ER w 0 (.slice br nr dr) nr reps) (b2 : SQ EM w 0 (.slice bn nn dn) nn nams) (b3 : SQ ES w 0 (.slice bs ns ds) ns srcs) (b4 : SQ EO w 0 (.slice bl nl dl) nl loss) (b5 : SQ EF w 0 (.slice bf nf df) nf firs) :
  Calls Try.prog 92 #[.agg #[.int .i64 k, .int .u32 (s : Nat), .int .u32 (m : Nat), .int .u64 (t : Nat), .int .u32 (st : Nat), .int .u32 (pk : Nat), .int .u32 (oc : Nat), .slice ar nr cr, .slice an nn cn, .slice as_ ns cs, .slice al nl cl_, .slice af nf cf, .int .u64 (rt : Nat)], .agg #[.int .i64 k, .int .u32 (s : Nat), .int .u32 (m : Nat), .int .u64 (t : Nat), .int .u32 (st : Nat), .int .u32 (pk : Nat), .int .u32 (oc : Nat), .slice br nr dr, .slice bn nn dn, .slice bs ns ds, .slice bl nl dl, .slice bf nf df, .int .u64 (rt : Nat)]] w fun e w' => e = .returned (.bool true) ∧ BW w w' := by
 obtain ⟨n1, n2, n3, n4, n5⟩ := hn
 have hl1 := Lib.hid a1.1
 have hl2 := Lib.hid a2.1
 have hl3 := Lib.hid a3.1
 have hl4 := Lib.hid a4.1
 have hl5 := Lib.hid a5.1
 have BA : BW w (w.alloc (.cells #[.int .i64 k, .int .u32 (s : Nat), .int .u32 (m : Nat), .int .u64 (t : Nat), .int .u32 (st : Nat), .int .u32 (pk : Nat), .int .u32 (oc : Nat), .slice ar nr cr, .slice an nn cn, .slice as_ ns cs, .slice al nl cl_, .slice af nf cf, .int .u64 (rt : Nat)] 111)) := (BW.refl w).alloc
 have BC : BW (w.alloc (.cells #[.int .i64 k, .int .u32 (s : Nat), .int .u32 (m : Nat), .int .u64 (t : Nat), .int .u32 (st : Nat), .int .u32 (pk : Nat), .int .u32 (oc : Nat), .slice ar nr cr, .slice an nn cn, .slice as_ ns cs, .slice al nl cl_, .slice af nf cf, .int .u64 (rt : Nat)] 111)) ((w.alloc (.cells #[.int .i64 k, .int .u32 (s : Nat), .int .u32 (m : Nat), .int .u64 (t : Nat), .int .u32 (st : Nat), .int .u32 (pk : Nat), .int .u32 (oc : Nat), .slice ar nr cr, .slice an nn cn, .slice as_ ns cs, .slice al nl cl_, .slice af nf cf, .int .u64 (rt : Nat)] 111)).alloc (.cells #[.int .i64 k, .int .u32 (s : Nat), .int .u32 (m : Nat), .int .u64 (t : Nat), .int .u32 (st : Nat), .int .u32 (pk : Nat), .int .u32 (oc : Nat), .slice br nr dr, .slice bn nn dn, .slice bs ns ds, .slice bl nl dl, .slice bf nf df, .int .u64 (rt : Nat)] 111)) := (BW.refl _).alloc
 have P := Lib.hid ((HpB.new w (.cells #[.int .i64 k, .int .u32 (s : Nat), .int .u32 (m : Nat), .int .u64 (t : Nat), .int .u32 (st : Nat), .int .u32 (pk : Nat), .int .u32 (oc : Nat), .slice ar nr cr, .slice an nn cn, .slice as_ ns cs, .slice al nl cl_, .slice af nf cf, .int .u64 (rt : Nat)] 111)).bw BC)
 have Q := Lib.hid (show HpB _ (w.heap.size + 1) _ from hp_new (w.alloc (.cells #[.int .i64 k, .int .u32 (s : Nat), .int .u32 (m : Nat), .int .u64 (t : Nat), .int .u32 (st : Nat), .int .u32 (pk : Nat), .int .u32 (oc : Nat), .slice ar nr cr, .slice an nn cn, .slice as_ ns cs, .slice al nl cl_, .slice af nf cf, .int .u64 (rt : Nat)] 111)) (.cells #[.int .i64 k, .int .u32 (s : Nat), .int .u32 (m : Nat), .int .u64 (t : Nat), .int .u32 (st : Nat), .int .u32 (pk : Nat), .int .u32 (oc : Nat), .slice br nr dr, .slice bn nn dn, .slice bs ns ds, .slice bl nl dl, .slice bf nf df, .int .u64 (rt : Nat)] 111) (w.heap.size + 1) (by simp))
 have BD := Lib.hid (BA.trans BC)
 replace a1 := Lib.hid (a1.bw BD.out)
 replace a2 := Lib.hid (a2.bw BD.out)
 replace a3 := Lib.hid (a3.bw BD.out)
 replace a4 := Lib.hid (a4.bw BD.out)
 replace a5 := Lib.hid (a5.bw BD.out)
 replace b1 := Lib.hid (b1.bw BD.out)
 replace b2 := Lib.hid (b2.bw BD.out)
 replace b3 := Lib.hid (b3.bw BD.out)
 replace b4 := Lib.hid (b4.bw BD.out)
 replace b5 := Lib.hid (b5.bw BD.out)
 replace BA := Lib.hid BA
 replace BC := Lib.hid BC
 go_enter Try.func92, Try.ntmps92
 go_upto_region 1 with (fail)
 generalize ((w.alloc _).alloc _) = w1 at *
 clear BA BC
 generalize hgp : w.heap.size = gp at *
 replace hgp := Lib.hid hgp
 have z0 := hp_cell (P.out) 0
 have z1 := hp_cell (P.out) 1
 have z2 := hp_cell (P.out) 2
 have z3 := hp_cell (P.out) 3
 have z4 := hp_cell (P.out) 4
 have z5 := hp_cell (P.out) 5
 have z6 := hp_cell (P.out) 6
 have z7 := hp_cell (P.out) 7
 have z8 := hp_cell (P.out) 8
 have z9 := hp_cell (P.out) 9
 have z10 := hp_cell (P.out) 10
 have z11 := hp_cell (P.out) 11
 have z12 := hp_cell (P.out) 12
 simp only [List.getElem?_toArray, List.getElem?_cons_zero, List.getElem?_cons_succ] at z0 z1 z2 z3 z4 z5 z6 z7 z8 z9 z10 z11 z12
 have k0 := hp_cell (Q.out) 0
 have k1 := hp_cell (Q.out) 1
 have k2 := hp_cell (Q.out) 2
 have k3 := hp_cell (Q.out) 3
 have k4 := hp_cell (Q.out) 4
 have k5 := hp_cell (Q.out) 5
 have k6 := hp_cell (Q.out) 6
 have k7 := hp_cell (Q.out) 7
 have k8 := hp_cell (Q.out) 8
 have k9 := hp_cell (Q.out) 9
 have k10 := hp_cell (Q.out) 10
 have k11 := hp_cell (Q.out) 11
 have k12 := hp_cell (Q.out) 12
 simp only [List.getElem?_toArray, List.getElem?_cons_zero, List.getElem?_cons_succ] at k0 k1 k2 k3 k4 k5 k6 k7 k8 k9 k10 k11 k12
 go_upto_region 6 with (fail)
 clear z0 z1 z2 z3 z4 z5 z6 z7 z8 z9 z10 z11 z12 k0 k1 k2 k3 k4 k5 k6 k7 k8 k9 k10 k11 k12
 go_loopg [5] nr (fun m' a wx => ∃ j : Nat, m' = nr - j ∧ j ≤ nr ∧ a = .int .i64 (j : Nat) ∧ Hid (BW w1 wx))
 case atStart => exact ⟨0, rfl, by omega, rfl, BW.refl _⟩
 case round =>
  obtain ⟨j, rfl, hj, rfl, B⟩ := hrel
  have za := (hp_cell (P.out.bw B.out) 7).trans (show _ = some (.slice ar nr cr) from rfl)
  have zb := (hp_cell (Q.out.bw B.out) 7).trans (show _ = some (.slice br nr dr) from rfl)
  by_cases hjn : j < nr
  ·have d : decide ((j : Int) < (nr : Int)) = true := by simp; omega
   have hjl : j < reps.length := by rw [hl1.out]; exact hjn
   go_upto_region 8 with (fail)
   clear za zb
   obtain ⟨ga, oa, rfl, -, hca⟩ := sq_cells (a1.out.bw B.out) (by omega)
   obtain ⟨gb, ob, rfl, -, hcb⟩ := sq_cells (b1.out.bw B.out) (by omega)
   obtain ⟨xa, hxa, hya⟩ := hca j hjl
   obtain ⟨xb, hxb, hyb⟩ := hcb j hjl
   replace hxa : xa = repV (reps[j]) := hxa
   replace hxb : xb = repV (reps[j]) := hxb
   replace hya : ∀ q, q < 7 → wr.cell? ⟨ga, oa + j * 7 + q, none⟩ = (repV (reps[j]))[q]? := fun q hq => by rw [← hxa]; exact hya q hq
   replace hyb : ∀ q, q < 7 → wr.cell? ⟨gb, ob + j * 7 + q, none⟩ = (repV (reps[j]))[q]? := fun q hq => by rw [← hxb]; exact hyb q hq
   clear hxa hxb hca hcb
   generalize reps[j] = E at *
   obtain ⟨e0, e1, e2, e3, e4, e5, e6⟩ := E
   have la0 : ∀ y : LaterS [] wr, y.now.cell? ⟨ga, oa + j * 7, none⟩ = some (.int .u32 (e0 : Nat)) := fun y => y.bw.cell (hya 0 (by decide))
   have lb0 : ∀ y : LaterS [] wr, y.now.cell? ⟨gb, ob + j * 7, none⟩ = some (.int .u32 (e0 : Nat)) := fun y => y.bw.cell (hyb 0 (by decide))
   have la1 : ∀ y : LaterS [] wr, y.now.cell? ⟨ga, oa + j * 7 + 1, none⟩ = some (.int .u8 (e1 : Nat)) := fun y => y.bw.cell (hya 1 (by decide))
   have lb1 : ∀ y : LaterS [] wr, y.now.cell? ⟨gb, ob + j * 7 + 1, none⟩ = some (.int .u8 (e1 : Nat)) := fun y => y.bw.cell (hyb 1 (by decide))
   have la2 : ∀ y : LaterS [] wr, y.now.cell? ⟨ga, oa + j * 7 + 2, none⟩ = some (.int .i32 e2) := fun y => y.bw.cell (hya 2 (by decide))
   have lb2 : ∀ y : LaterS [] wr, y.now.cell? ⟨gb, ob + j * 7 + 2, none⟩ = some (.int .i32 e2) := fun y => y.bw.cell (hyb 2 (by decide))
   have la3 : ∀ y : LaterS [] wr, y.now.cell? ⟨ga, oa + j * 7 + 3, none⟩ = some (.int .u32 (e3 : Nat)) := fun y => y.bw.cell (hya 3 (by decide))
   have lb3 : ∀ y : LaterS [] wr, y.now.cell? ⟨gb, ob + j * 7 + 3, none⟩ = some (.int .u32 (e3 : Nat)) := fun y => y.bw.cell (hyb 3 (by decide))
   have la4 : ∀ y : LaterS [] wr, y.now.cell? ⟨ga, oa + j * 7 + 4, none⟩ = some (.int .u32 (e4 : Nat)) := fun y => y.bw.cell (hya 4 (by decide))
   have lb4 : ∀ y : LaterS [] wr, y.now.cell? ⟨gb, ob + j * 7 + 4, none⟩ = some (.int .u32 (e4 : Nat)) := fun y => y.bw.cell (hyb 4 (by decide))
   have la5 : ∀ y : LaterS [] wr, y.now.cell? ⟨ga, oa + j * 7 + 5, none⟩ = some (.int .u32 (e5 : Nat)) := fun y => y.bw.cell (hya 5 (by decide))
   have lb5 : ∀ y : LaterS [] wr, y.now.cell? ⟨gb, ob + j * 7 + 5, none⟩ = some (.int .u32 (e5 : Nat)) := fun y => y.bw.cell (hyb 5 (by decide))
   have la6 : ∀ y : LaterS [] wr, y.now.cell? ⟨ga, oa + j * 7 + 6, none⟩ = some (.int .u32 (e6 : Nat)) := fun y => y.bw.cell (hya 6 (by decide))
   have lb6 : ∀ y : LaterS [] wr, y.now.cell? ⟨gb, ob + j * 7 + 6, none⟩ = some (.int .u32 (e6 : Nat)) := fun y => y.bw.cell (hyb 6 (by decide))
   have sa : ∀ y : LaterS [] wr, y.now.cell? ⟨gp, 7, none⟩ = some (.slice (some ⟨ga, oa, none⟩) nr cr) := fun y => (hp_cell (P.out.bw (B.out.trans y.bw)) 7).trans rfl
   have sb : ∀ y : LaterS [] wr, y.now.cell? ⟨gp + 1, 7, none⟩ = some (.slice (some ⟨gb, ob, none⟩) nr dr) := fun y => (hp_cell (Q.out.bw (B.out.trans y.bw)) 7).trans rfl
   clear hya hyb
   skip
   refine wp_region_gg [] [] [10] (by kernel_rfl) ?_
   refine hoist [] [] (a1 := ?_) 0 rfl (by kernel_rfl) (.inl ⟨rfl, rfl⟩) rfl rfl rfl (fun x K hK => ?_) ?_
   rotate_left
   ·go_big_quiet_op
    exact hK
   refine hoist [] [] (a1 := ?_) 1 rfl (by kernel_rfl) (.inl ⟨rfl, rfl⟩) rfl rfl rfl (fun x K hK => ?_) ?_
   rotate_left
   ·go_big_quiet_op
    exact hK
   refine hoist [] [] (a1 := ?_) 2 rfl (by kernel_rfl) (.inl ⟨rfl, rfl⟩) rfl rfl rfl (fun x K hK => ?_) ?_
   rotate_left
   ·go_big_quiet_op
    exact hK
   refine hoist [] [] (a1 := ?_) 3 rfl (by kernel_rfl) (.inl ⟨rfl, rfl⟩) rfl rfl rfl (fun x K hK => ?_) ?_
   rotate_left
   ·go_big_quiet_op
    exact hK
   refine hoist [] [] (a1 := ?_) 4 rfl (by kernel_rfl) (.inl ⟨rfl, rfl⟩) rfl rfl rfl (fun x K hK => ?_) ?_
   rotate_left
   ·go_big_quiet_op
    exact hK
   refine hoist [] [] (a1 := ?_) 5 rfl (by kernel_rfl) (.inl ⟨rfl, rfl⟩) rfl rfl rfl (fun x K hK => ?_) ?_
   rotate_left
   ·go_big_quiet_op
    exact hK
   refine hoist [] [] (a1 := ?_) 6 rfl (by kernel_rfl) (.inl ⟨rfl, rfl⟩) rfl rfl rfl (fun x K hK => ?_) ?_
   rotate_left
   ·go_big_quiet_op
    exact hK
   refine hoist [] [] (a1 := ?_) 7 rfl (by kernel_rfl) (.inl ⟨rfl, rfl⟩) rfl rfl rfl (fun x K hK => ?_) ?_
   rotate_left
   ·go_big_quiet_op
    exact hK
   refine hoist [] [] (a1 := ?_) 8 rfl (by kernel_rfl) (.inl ⟨rfl, rfl⟩) rfl rfl rfl (fun x K hK => ?_) ?_
   rotate_left
   ·go_big_quiet_op
    exact hK
   refine hoist [] [] (a1 := ?_) 9 rfl (by kernel_rfl) (.inl ⟨rfl, rfl⟩) rfl rfl rfl (fun x K hK => ?_) ?_
   rotate_left
   ·go_big_quiet_op
    exact hK
   refine tail 10 rfl (by kernel_rfl) rfl (fun xr => ?_)
   simp only [List.drop_succ_cons, List.drop_zero]
   have B2 := Lib.hid (B.out.trans xr.bw)
   clear B sa sb la0 lb0 la1 lb1 la2 lb2 la3 lb3 la4 lb4 la5 lb5 la6 lb6
   generalize xr.now = w2 at *
   go_wp2_with fail
   go_roundg (nr - (j + 1))
   case measure => omega
   case rel => exact ⟨j + 1, rfl, by omega, by push_cast; rfl, B2⟩
  ·have d : decide ((j : Int) < (nr : Int)) = false := by simp; omega
   go_upto_region 11 with (fail)
   clear za zb d hj hjn
   rename World => wo
   go_loopg [6] nn (fun m' a wx => ∃ j : Nat, m' = nn - j ∧ j ≤ nn ∧ a = .int .i64 (j : Nat) ∧ Hid (BW w1 wx))
   case atStart => exact ⟨0, rfl, by omega, rfl, B⟩
   case round =>
    clear B
    obtain ⟨j, rfl, hj, rfl, B⟩ := hrel
    have za := (hp_cell (P.out.bw B.out) 8).trans (show _ = some (.slice an nn cn) from rfl)
    have zb := (hp_cell (Q.out.bw B.out) 8).trans (show _ = some (.slice bn nn dn) from rfl)
    by_cases hjn : j < nn
    ·have d : decide ((j : Int) < (nn : Int)) = true := by simp; omega
     have hjl : j < nams.length := by rw [hl2.out]; exact hjn
     go_upto_region 13 with (fail)
     clear za zb
     obtain ⟨ga, oa, rfl, -, hca⟩ := sq_cells (a2.out.bw B.out) (by omega)
     obtain ⟨gb, ob, rfl, -, hcb⟩ := sq_cells (b2.out.bw B.out) (by omega)
     obtain ⟨xa, hxa, hya⟩ := hca j hjl
     obtain ⟨xb, hxb, hyb⟩ := hcb j hjl
     replace hxa : xa = namV (nams[j]) := hxa
     replace hxb : xb = namV (nams[j]) := hxb
     replace hya : ∀ q, q < 2 → wr.cell? ⟨ga, oa + j * 2 + q, none⟩ = (namV (nams[j]))[q]? := fun q hq => by rw [← hxa]; exact hya q hq
     replace hyb : ∀ q, q < 2 → wr.cell? ⟨gb, ob + j * 2 + q, none⟩ = (namV (nams[j]))[q]? := fun q hq => by rw [← hxb]; exact hyb q hq
     clear hxa hxb hca hcb
     generalize nams[j] = E at *
     obtain ⟨e0, e1⟩ := E
     have la0 : ∀ y : LaterS [] wr, y.now.cell? ⟨ga, oa + j * 2, none⟩ = some (.int .u32 (e0 : Nat)) := fun y => y.bw.cell (hya 0 (by decide))
     have lb0 : ∀ y : LaterS [] wr, y.now.cell? ⟨gb, ob + j * 2, none⟩ = some (.int .u32 (e0 : Nat)) := fun y => y.bw.cell (hyb 0 (by decide))
     have la1 : ∀ y : LaterS [] wr, y.now.cell? ⟨ga, oa + j * 2 + 1, none⟩ = some (.string (bstr e1)) := fun y => y.bw.cell (hya 1 (by decide))
     have lb1 : ∀ y : LaterS [] wr, y.now.cell? ⟨gb, ob + j * 2 + 1, none⟩ = some (.string (bstr e1)) := fun y => y.bw.cell (hyb 1 (by decide))
     have sa : ∀ y : LaterS [] wr, y.now.cell? ⟨gp, 8, none⟩ = some (.slice (some ⟨ga, oa, none⟩) nn cn) := fun y => (hp_cell (P.out.bw (B.out.trans y.bw)) 8).trans rfl
     have sb : ∀ y : LaterS [] wr, y.now.cell? ⟨gp + 1, 8, none⟩ = some (.slice (some ⟨gb, ob, none⟩) nn dn) := fun y => (hp_cell (Q.out.bw (B.out.trans y.bw)) 8).trans rfl
     clear hya hyb
     skip
     refine wp_region_gg [] [] [10] (by kernel_rfl) ?_
     refine hoist [] [] (a1 := ?_) 0 rfl (by kernel_rfl) (.inl ⟨rfl, rfl⟩) rfl rfl rfl (fun x K hK => ?_) ?_
     rotate_left
     ·go_big_quiet_op
      exact hK
     refine hoist [] [] (a1 := ?_) 1 rfl (by kernel_rfl) (.inl ⟨rfl, rfl⟩) rfl rfl rfl (fun x K hK => ?_) ?_
     rotate_left
     ·go_big_quiet_op
      exact hK
     refine hoist [] [] (a1 := ?_) 2 rfl (by kernel_rfl) (.inl ⟨rfl, rfl⟩) rfl rfl rfl (fun x K hK => ?_) ?_
     rotate_left
     ·go_big_quiet_op
      exact hK
     refine hoist [] [] (a1 := ?_) 3 rfl (by kernel_rfl) (.inl ⟨rfl, rfl⟩) rfl rfl rfl (fun x K hK => ?_) ?_
     rotate_left
     ·go_big_quiet_op
      exact hK
     refine hoist [] [] (a1 := ?_) 4 rfl (by kernel_rfl) (.inl ⟨rfl, rfl⟩) rfl rfl rfl (fun x K hK => ?_) ?_
     rotate_left
     ·go_big_quiet_op
      exact hK
     refine hoist [] [] (a1 := ?_) 5 rfl (by kernel_rfl) (.inl ⟨rfl, rfl⟩) rfl rfl rfl (fun x K hK => ?_) ?_
     rotate_left
     ·go_big_quiet_op
      exact hK
     refine hoist [] [] (a1 := ?_) 6 rfl (by kernel_rfl) (.inl ⟨rfl, rfl⟩) rfl rfl rfl (fun x K hK => ?_) ?_
     rotate_left
     ·go_big_quiet_op
      exact hK
     refine hoist [] [] (a1 := ?_) 7 rfl (by kernel_rfl) (.inl ⟨rfl, rfl⟩) rfl rfl rfl (fun x K hK => ?_) ?_
     rotate_left
     ·go_big_quiet_op
      exact hK
     refine hoist [] [] (a1 := ?_) 8 rfl (by kernel_rfl) (.inl ⟨rfl, rfl⟩) rfl rfl rfl (fun x K hK => ?_) ?_
     rotate_left
     ·go_big_quiet_op
      exact hK
     refine hoist [] [] (a1 := ?_) 9 rfl (by kernel_rfl) (.inl ⟨rfl, rfl⟩) rfl rfl rfl (fun x K hK => ?_) ?_
     rotate_left
     ·go_big_quiet_op
      exact hK
     refine tail 10 rfl (by kernel_rfl) rfl (fun xr => ?_)
     simp only [List.drop_succ_cons, List.drop_zero]
     have B2 := Lib.hid (B.out.trans xr.bw)
     clear B sa sb la0 lb0 la1 lb1
     generalize xr.now = w2 at *
     go_wp2_with fail
     go_roundg (nn - (j + 1))
     case measure => omega
     case rel => exact ⟨j + 1, rfl, by omega, by push_cast; rfl, B2⟩
    ·have d : decide ((j : Int) < (nn : Int)) = false := by simp; omega
     go_upto_region 16 with (fail)
     clear za zb d hj hjn
     rename World => wo
     go_loopg [7] ns (fun m' a wx => ∃ j : Nat, m' = ns - j ∧ j ≤ ns ∧ a = .int .i64 (j : Nat) ∧ Hid (BW w1 wx))
     case atStart => exact ⟨0, rfl, by omega, rfl, B⟩
     case round =>
      clear B
      obtain ⟨j, rfl, hj, rfl, B⟩ := hrel
      have za := (hp_cell (P.out.bw B.out) 9).trans (show _ = some (.slice as_ ns cs) from rfl)
      have zb := (hp_cell (Q.out.bw B.out) 9).trans (show _ = some (.slice bs ns ds) from rfl)
      by_cases hjn : j < ns
      ·have d : decide ((j : Int) < (ns : Int)) = true := by simp; omega
       have hjl : j < srcs.length := by rw [hl3.out]; exact hjn
       go_upto_region 18 with (fail)
       clear za zb
       obtain ⟨ga, oa, rfl, -, hca⟩ := sq_cells (a3.out.bw B.out) (by omega)
       obtain ⟨gb, ob, rfl, -, hcb⟩ := sq_cells (b3.out.bw B.out) (by omega)
       obtain ⟨xa, hxa, hya⟩ := hca j hjl
       obtain ⟨xb, hxb, hyb⟩ := hcb j hjl
       replace hxa : xa = srcV (srcs[j]) := hxa
       replace hxb : xb = srcV (srcs[j]) := hxb
       replace hya : ∀ q, q < 1 → wr.cell? ⟨ga, oa + j * 1 + q, none⟩ = (srcV (srcs[j]))[q]? := fun q hq => by rw [← hxa]; exact hya q hq
       replace hyb : ∀ q, q < 1 → wr.cell? ⟨gb, ob + j * 1 + q, none⟩ = (srcV (srcs[j]))[q]? := fun q hq => by rw [← hxb]; exact hyb q hq
       clear hxa hxb hca hcb
       generalize srcs[j] = e0 at *
       have la0 : ∀ y : LaterS [] wr, y.now.cell? ⟨ga, oa + j, none⟩ = some (.int .u32 (e0 : Nat)) := fun y => y.bw.cell (by have := hya 0 (by decide); rw [Nat.mul_one] at this; exact this)
       have lb0 : ∀ y : LaterS [] wr, y.now.cell? ⟨gb, ob + j, none⟩ = some (.int .u32 (e0 : Nat)) := fun y => y.bw.cell (by have := hyb 0 (by decide); rw [Nat.mul_one] at this; exact this)
       have sa : ∀ y : LaterS [] wr, y.now.cell? ⟨gp, 9, none⟩ = some (.slice (some ⟨ga, oa, none⟩) ns cs) := fun y => (hp_cell (P.out.bw (B.out.trans y.bw)) 9).trans rfl
       have sb : ∀ y : LaterS [] wr, y.now.cell? ⟨gp + 1, 9, none⟩ = some (.slice (some ⟨gb, ob, none⟩) ns ds) := fun y => (hp_cell (Q.out.bw (B.out.trans y.bw)) 9).trans rfl
       clear hya hyb
       skip
       refine wp_region_gg [] [] [10] (by kernel_rfl) ?_
       refine hoist [] [] (a1 := ?_) 0 rfl (by kernel_rfl) (.inl ⟨rfl, rfl⟩) rfl rfl rfl (fun x K hK => ?_) ?_
       rotate_left
       ·go_big_quiet_op
        exact hK
       refine hoist [] [] (a1 := ?_) 1 rfl (by kernel_rfl) (.inl ⟨rfl, rfl⟩) rfl rfl rfl (fun x K hK => ?_) ?_
       rotate_left
       ·go_big_quiet_op
        exact hK
       refine hoist [] [] (a1 := ?_) 2 rfl (by kernel_rfl) (.inl ⟨rfl, rfl⟩) rfl rfl rfl (fun x K hK => ?_) ?_
       rotate_left
       ·go_big_quiet_op
        exact hK
       refine hoist [] [] (a1 := ?_) 3 rfl (by kernel_rfl) (.inl ⟨rfl, rfl⟩) rfl rfl rfl (fun x K hK => ?_) ?_
       rotate_left
       ·go_big_quiet_op
        exact hK
       refine hoist [] [] (a1 := ?_) 4 rfl (by kernel_rfl) (.inl ⟨rfl, rfl⟩) rfl rfl rfl (fun x K hK => ?_) ?_
       rotate_left
       ·go_big_quiet_op
        exact hK
       refine hoist [] [] (a1 := ?_) 5 rfl (by kernel_rfl) (.inl ⟨rfl, rfl⟩) rfl rfl rfl (fun x K hK => ?_) ?_
       rotate_left
       ·go_big_quiet_op
        exact hK
       refine hoist [] [] (a1 := ?_) 6 rfl (by kernel_rfl) (.inl ⟨rfl, rfl⟩) rfl rfl rfl (fun x K hK => ?_) ?_
       rotate_left
       ·go_big_quiet_op
        exact hK
       refine hoist [] [] (a1 := ?_) 7 rfl (by kernel_rfl) (.inl ⟨rfl, rfl⟩) rfl rfl rfl (fun x K hK => ?_) ?_
       rotate_left
       ·go_big_quiet_op
        exact hK
       refine hoist [] [] (a1 := ?_) 8 rfl (by kernel_rfl) (.inl ⟨rfl, rfl⟩) rfl rfl rfl (fun x K hK => ?_) ?_
       rotate_left
       ·go_big_quiet_op
        exact hK
       refine hoist [] [] (a1 := ?_) 9 rfl (by kernel_rfl) (.inl ⟨rfl, rfl⟩) rfl rfl rfl (fun x K hK => ?_) ?_
       rotate_left
       ·go_big_quiet_op
        exact hK
       refine tail 10 rfl (by kernel_rfl) rfl (fun xr => ?_)
       simp only [List.drop_succ_cons, List.drop_zero]
       have B2 := Lib.hid (B.out.trans xr.bw)
       clear B sa sb la0 lb0
       generalize xr.now = w2 at *
       go_wp2_with fail
       go_roundg (ns - (j + 1))
       case measure => omega
       case rel => exact ⟨j + 1, rfl, by omega, by push_cast; rfl, B2⟩
      ·have d : decide ((j : Int) < (ns : Int)) = false := by simp; omega
       go_upto_region 21 with (fail)
       clear za zb d hj hjn
       rename World => wo
       go_loopg [8] nl (fun m' a wx => ∃ j : Nat, m' = nl - j ∧ j ≤ nl ∧ a = .int .i64 (j : Nat) ∧ Hid (BW w1 wx))
       case atStart => exact ⟨0, rfl, by omega, rfl, B⟩
       case round =>
        clear B
        obtain ⟨j, rfl, hj, rfl, B⟩ := hrel
        have za := (hp_cell (P.out.bw B.out) 10).trans (show _ = some (.slice al nl cl_) from rfl)
        have zb := (hp_cell (Q.out.bw B.out) 10).trans (show _ = some (.slice bl nl dl) from rfl)
        by_cases hjn : j < nl
        ·have d : decide ((j : Int) < (nl : Int)) = true := by simp; omega
         have hjl : j < loss.length := by rw [hl4.out]; exact hjn
         go_upto_region 23 with (fail)
         clear za zb
         obtain ⟨ga, oa, rfl, -, hca⟩ := sq_cells (a4.out.bw B.out) (by omega)
         obtain ⟨gb, ob, rfl, -, hcb⟩ := sq_cells (b4.out.bw B.out) (by omega)
         obtain ⟨xa, hxa, hya⟩ := hca j hjl
         obtain ⟨xb, hxb, hyb⟩ := hcb j hjl
         replace hxa : xa = lossV (loss[j]) := hxa
         replace hxb : xb = lossV (loss[j]) := hxb
         replace hya : ∀ q, q < 2 → wr.cell? ⟨ga, oa + j * 2 + q, none⟩ = (lossV (loss[j]))[q]? := fun q hq => by rw [← hxa]; exact hya q hq
         replace hyb : ∀ q, q < 2 → wr.cell? ⟨gb, ob + j * 2 + q, none⟩ = (lossV (loss[j]))[q]? := fun q hq => by rw [← hxb]; exact hyb q hq
         clear hxa hxb hca hcb
         generalize loss[j] = E at *
         obtain ⟨e0, e1⟩ := E
         have la0 : ∀ y : LaterS [] wr, y.now.cell? ⟨ga, oa + j * 2, none⟩ = some (.int .u16 (e0 : Nat)) := fun y => y.bw.cell (hya 0 (by decide))
         have lb0 : ∀ y : LaterS [] wr, y.now.cell? ⟨gb, ob + j * 2, none⟩ = some (.int .u16 (e0 : Nat)) := fun y => y.bw.cell (hyb 0 (by decide))
         have la1 : ∀ y : LaterS [] wr, y.now.cell? ⟨ga, oa + j * 2 + 1, none⟩ = some (.int .u16 (e1 : Nat)) := fun y => y.bw.cell (hya 1 (by decide))
         have lb1 : ∀ y : LaterS [] wr, y.now.cell? ⟨gb, ob + j * 2 + 1, none⟩ = some (.int .u16 (e1 : Nat)) := fun y => y.bw.cell (hyb 1 (by decide))
         have sa : ∀ y : LaterS [] wr, y.now.cell? ⟨gp, 10, none⟩ = some (.slice (some ⟨ga, oa, none⟩) nl cl_) := fun y => (hp_cell (P.out.bw (B.out.trans y.bw)) 10).trans rfl
         have sb : ∀ y : LaterS [] wr, y.now.cell? ⟨gp + 1, 10, none⟩ = some (.slice (some ⟨gb, ob, none⟩) nl dl) := fun y => (hp_cell (Q.out.bw (B.out.trans y.bw)) 10).trans rfl
         clear hya hyb
         skip
         refine wp_region_gg [] [] [10] (by kernel_rfl) ?_
         refine hoist [] [] (a1 := ?_) 0 rfl (by kernel_rfl) (.inl ⟨rfl, rfl⟩) rfl rfl rfl (fun x K hK => ?_) ?_
         rotate_left
         ·go_big_quiet_op
          exact hK
         refine hoist [] [] (a1 := ?_) 1 rfl (by kernel_rfl) (.inl ⟨rfl, rfl⟩) rfl rfl rfl (fun x K hK => ?_) ?_
         rotate_left
         ·go_big_quiet_op
          exact hK
         refine hoist [] [] (a1 := ?_) 2 rfl (by kernel_rfl) (.inl ⟨rfl, rfl⟩) rfl rfl rfl (fun x K hK => ?_) ?_
         rotate_left
         ·go_big_quiet_op
          exact hK
         refine hoist [] [] (a1 := ?_) 3 rfl (by kernel_rfl) (.inl ⟨rfl, rfl⟩) rfl rfl rfl (fun x K hK => ?_) ?_
         rotate_left
         ·go_big_quiet_op
          exact hK
         refine hoist [] [] (a1 := ?_) 4 rfl (by kernel_rfl) (.inl ⟨rfl, rfl⟩) rfl rfl rfl (fun x K hK => ?_) ?_
         rotate_left
         ·go_big_quiet_op
          exact hK
         refine hoist [] [] (a1 := ?_) 5 rfl (by kernel_rfl) (.inl ⟨rfl, rfl⟩) rfl rfl rfl (fun x K hK => ?_) ?_
         rotate_left
         ·go_big_quiet_op
          exact hK
         refine hoist [] [] (a1 := ?_) 6 rfl (by kernel_rfl) (.inl ⟨rfl, rfl⟩) rfl rfl rfl (fun x K hK => ?_) ?_
         rotate_left
         ·go_big_quiet_op
          exact hK
         refine hoist [] [] (a1 := ?_) 7 rfl (by kernel_rfl) (.inl ⟨rfl, rfl⟩) rfl rfl rfl (fun x K hK => ?_) ?_
         rotate_left
         ·go_big_quiet_op
          exact hK
         refine hoist [] [] (a1 := ?_) 8 rfl (by kernel_rfl) (.inl ⟨rfl, rfl⟩) rfl rfl rfl (fun x K hK => ?_) ?_
         rotate_left
         ·go_big_quiet_op
          exact hK
         refine hoist [] [] (a1 := ?_) 9 rfl (by kernel_rfl) (.inl ⟨rfl, rfl⟩) rfl rfl rfl (fun x K hK => ?_) ?_
         rotate_left
         ·go_big_quiet_op
          exact hK
         refine tail 10 rfl (by kernel_rfl) rfl (fun xr => ?_)
         simp only [List.drop_succ_cons, List.drop_zero]
         have B2 := Lib.hid (B.out.trans xr.bw)
         clear B sa sb la0 lb0 la1 lb1
         generalize xr.now = w2 at *
         go_wp2_with fail
         go_roundg (nl - (j + 1))
         case measure => omega
         case rel => exact ⟨j + 1, rfl, by omega, by push_cast; rfl, B2⟩
        ·have d : decide ((j : Int) < (nl : Int)) = false := by simp; omega
         go_upto_region 26 with (fail)
         clear za zb d hj hjn
         rename World => wo
         go_loopg [9] nf (fun m' a wx => ∃ j : Nat, m' = nf - j ∧ j ≤ nf ∧ a = .int .i64 (j : Nat) ∧ Hid (BW w1 wx))
         case atStart => exact ⟨0, rfl, by omega, rfl, B⟩
         case round =>
          clear B
          obtain ⟨j, rfl, hj, rfl, B⟩ := hrel
          have za := (hp_cell (P.out.bw B.out) 11).trans (show _ = some (.slice af nf cf) from rfl)
          have zb := (hp_cell (Q.out.bw B.out) 11).trans (show _ = some (.slice bf nf df) from rfl)
          by_cases hjn : j < nf
          ·have d : decide ((j : Int) < (nf : Int)) = true := by simp; omega
           have hjl : j < firs.length := by rw [hl5.out]; exact hjn
           go_upto_region 28 with (fail)
           clear za zb
           obtain ⟨ga, oa, rfl, -, hca⟩ := sq_cells (a5.out.bw B.out) (by omega)
           obtain ⟨gb, ob, rfl, -, hcb⟩ := sq_cells (b5.out.bw B.out) (by omega)
           obtain ⟨xa, hxa, hya⟩ := hca j hjl
           obtain ⟨xb, hxb, hyb⟩ := hcb j hjl
           replace hxa : xa = firV (firs[j]) := hxa
           replace hxb : xb = firV (firs[j]) := hxb
           replace hya : ∀ q, q < 2 → wr.cell? ⟨ga, oa + j * 2 + q, none⟩ = (firV (firs[j]))[q]? := fun q hq => by rw [← hxa]; exact hya q hq
           replace hyb : ∀ q, q < 2 → wr.cell? ⟨gb, ob + j * 2 + q, none⟩ = (firV (firs[j]))[q]? := fun q hq => by rw [← hxb]; exact hyb q hq
           clear hxa hxb hca hcb
           generalize firs[j] = E at *
           obtain ⟨e0, e1⟩ := E
           have la0 : ∀ y : LaterS [] wr, y.now.cell? ⟨ga, oa + j * 2, none⟩ = some (.int .u32 (e0 : Nat)) := fun y => y.bw.cell (hya 0 (by decide))
           have lb0 : ∀ y : LaterS [] wr, y.now.cell? ⟨gb, ob + j * 2, none⟩ = some (.int .u32 (e0 : Nat)) := fun y => y.bw.cell (hyb 0 (by decide))
           have la1 : ∀ y : LaterS [] wr, y.now.cell? ⟨ga, oa + j * 2 + 1, none⟩ = some (.int .u8 (e1 : Nat)) := fun y => y.bw.cell (hya 1 (by decide))
           have lb1 : ∀ y : LaterS [] wr, y.now.cell? ⟨gb, ob + j * 2 + 1, none⟩ = some (.int .u8 (e1 : Nat)) := fun y => y.bw.cell (hyb 1 (by decide))
           have sa : ∀ y : LaterS [] wr, y.now.cell? ⟨gp, 11, none⟩ = some (.slice (some ⟨ga, oa, none⟩) nf cf) := fun y => (hp_cell (P.out.bw (B.out.trans y.bw)) 11).trans rfl
           have sb : ∀ y : LaterS [] wr, y.now.cell? ⟨gp + 1, 11, none⟩ = some (.slice (some ⟨gb, ob, none⟩) nf df) := fun y => (hp_cell (Q.out.bw (B.out.trans y.bw)) 11).trans rfl
           clear hya hyb
           skip
           refine wp_region_gg [] [] [10] (by kernel_rfl) ?_
           refine hoist [] [] (a1 := ?_) 0 rfl (by kernel_rfl) (.inl ⟨rfl, rfl⟩) rfl rfl rfl (fun x K hK => ?_) ?_
           rotate_left
           ·go_big_quiet_op
            exact hK
           refine hoist [] [] (a1 := ?_) 1 rfl (by kernel_rfl) (.inl ⟨rfl, rfl⟩) rfl rfl rfl (fun x K hK => ?_) ?_
           rotate_left
           ·go_big_quiet_op
            exact hK
           refine hoist [] [] (a1 := ?_) 2 rfl (by kernel_rfl) (.inl ⟨rfl, rfl⟩) rfl rfl rfl (fun x K hK => ?_) ?_
           rotate_left
           ·go_big_quiet_op
            exact hK
           refine hoist [] [] (a1 := ?_) 3 rfl (by kernel_rfl) (.inl ⟨rfl, rfl⟩) rfl rfl rfl (fun x K hK => ?_) ?_
           rotate_left
           ·go_big_quiet_op
            exact hK
           refine hoist [] [] (a1 := ?_) 4 rfl (by kernel_rfl) (.inl ⟨rfl, rfl⟩) rfl rfl rfl (fun x K hK => ?_) ?_
           rotate_left
           ·go_big_quiet_op
            exact hK
           refine hoist [] [] (a1 := ?_) 5 rfl (by kernel_rfl) (.inl ⟨rfl, rfl⟩) rfl rfl rfl (fun x K hK => ?_) ?_
           rotate_left
           ·go_big_quiet_op
            exact hK
           refine hoist [] [] (a1 := ?_) 6 rfl (by kernel_rfl) (.inl ⟨rfl, rfl⟩) rfl rfl rfl (fun x K hK => ?_) ?_
           rotate_left
           ·go_big_quiet_op
            exact hK
           refine hoist [] [] (a1 := ?_) 7 rfl (by kernel_rfl) (.inl ⟨rfl, rfl⟩) rfl rfl rfl (fun x K hK => ?_) ?_
           rotate_left
           ·go_big_quiet_op
            exact hK
           refine hoist [] [] (a1 := ?_) 8 rfl (by kernel_rfl) (.inl ⟨rfl, rfl⟩) rfl rfl rfl (fun x K hK => ?_) ?_
           rotate_left
           ·go_big_quiet_op
            exact hK
           refine hoist [] [] (a1 := ?_) 9 rfl (by kernel_rfl) (.inl ⟨rfl, rfl⟩) rfl rfl rfl (fun x K hK => ?_) ?_
           rotate_left
           ·go_big_quiet_op
            exact hK
           refine tail 10 rfl (by kernel_rfl) rfl (fun xr => ?_)
           simp only [List.drop_succ_cons, List.drop_zero]
           have B2 := Lib.hid (B.out.trans xr.bw)
           clear B sa sb la0 lb0 la1 lb1
           generalize xr.now = w2 at *
           go_wp2_with fail
           go_roundg (nf - (j + 1))
           case measure => omega
           case rel => exact ⟨j + 1, rfl, by omega, by push_cast; rfl, B2⟩
          ·have d : decide ((j : Int) < (nf : Int)) = false := by simp; omega
           go_wp2_with fail
           go_ret
           exact ⟨rfl, BD.out.trans B.out⟩
end Go.Proofs.Ytcempndfbckcaaa

namespace Go.Proofs.Ytcempndfbckcaaa
open Go.RowKit
abbrev repTy : Ty := .scope (.seq (.label 6) (.seq (.label 4) (.seq (.label 2) (.seq (.label 6) (.seq (.label 6) (.seq (.label 6) (.seq (.label 6) .skip)))))))
abbrev namTy : Ty := .scope (.seq (.label 6) (.seq (.goto 0) .skip))
abbrev losTy : Ty := .scope (.seq (.label 5) (.seq (.label 5) .skip))
abbrev firTy : Ty := .scope (.seq (.label 6) (.seq (.label 4) .skip))
abbrev ctlTy : Ty := .scope (.seq (.label 3) (.seq (.label 6) (.seq (.label 6) (.seq (.label 7) (.seq (.label 6) (.seq (.label 6) (.seq (.label 6) (.seq (.loop repTy) (.seq (.loop namTy) (.seq (.loop (.label 6)) (.seq (.loop losTy) (.seq (.loop firTy) (.seq (.label 7) .skip)))))))))))))
theorem Rd.sl2 {w : World} {e : Ty} {cs : List Value} (h : Rd w (.loop e) cs) : ∃ s n p, cs = [.slice s n p] := by
 rcases h with h | ⟨a, l, c, h, _⟩
 ·exact ⟨_, _, _, h⟩
 ·exact ⟨_, _, _, h⟩
theorem repR {w : World} {cs : List Value} (h : Rd w repTy cs) : ∃ r, RepWf r ∧ ER.R w 0 r cs := by
 obtain ⟨c0, r0, rfl, ⟨x0, rfl, w0⟩, h⟩ := h
 obtain ⟨c1, r1, rfl, ⟨x1, rfl, w1⟩, h⟩ := h
 obtain ⟨c2, r2, rfl, ⟨x2, rfl, w2⟩, h⟩ := h
 obtain ⟨c3, r3, rfl, ⟨x3, rfl, w3⟩, h⟩ := h
 obtain ⟨c4, r4, rfl, ⟨x4, rfl, w4⟩, h⟩ := h
 obtain ⟨c5, r5, rfl, ⟨x5, rfl, w5⟩, h⟩ := h
 obtain ⟨c6, r6, rfl, ⟨x6, rfl, w6⟩, h⟩ := h
 have hr : r6 = [] := h
 subst hr
 have b0 := bounds_u32 w0
 have b1 := bounds_u8 w1
 have b2 := bounds_i32 w2
 have b3 := bounds_u32 w3
 have b4 := bounds_u32 w4
 have b5 := bounds_u32 w5
 have b6 := bounds_u32 w6
 obtain ⟨x0, rfl⟩ := Int.eq_ofNat_of_zero_le b0.1
 obtain ⟨x1, rfl⟩ := Int.eq_ofNat_of_zero_le b1.1
 obtain ⟨x3, rfl⟩ := Int.eq_ofNat_of_zero_le b3.1
 obtain ⟨x4, rfl⟩ := Int.eq_ofNat_of_zero_le b4.1
 obtain ⟨x5, rfl⟩ := Int.eq_ofNat_of_zero_le b5.1
 obtain ⟨x6, rfl⟩ := Int.eq_ofNat_of_zero_le b6.1
 exact ⟨⟨x0, x1, x2, x3, x4, x5, x6⟩, ⟨by show x0 < _; omega, by show x1 < _; omega, by show _ ≤ x2; omega, by show x2 ≤ _; omega, by show x3 < _; omega, by show x4 < _; omega, by show x5 < _; omega, by show x6 < _; omega⟩, rfl⟩
theorem bstr_of (s : ByteArray) : ∃ l, ByL l ∧ bstr l = s := by
 refine ⟨s.data.toList.map UInt8.toNat, fun x hx => ?_, ?_⟩
 ·obtain ⟨b, _, rfl⟩ := List.mem_map.1 hx
  exact b.toNat_lt
 ·unfold bstr strOfNums
  have e : ((s.data.toList.map UInt8.toNat).map fun (n : Nat) => (n : Int)).map (fun n => UInt8.ofNat n.toNat) = s.data.toList := by
   rw [List.map_map, List.map_map]
   conv => rhs; rw [← List.map_id s.data.toList]
   refine List.map_congr_left fun b _ => ?_
   simp [Function.comp]
  rw [e]
theorem namR {w : World} {cs : List Value} (h : Rd w namTy cs) : ∃ p : Nat × List Nat, (p.1 < 4294967296 ∧ ByL p.2) ∧ EM.R w 0 p cs := by
 obtain ⟨c0, r0, rfl, ⟨x0, rfl, w0⟩, h⟩ := h
 obtain ⟨c1, r1, rfl, h1, h⟩ := h
 have hr : r1 = [] := h
 subst hr
 have b0 := bounds_u32 w0
 obtain ⟨x0, rfl⟩ := Int.eq_ofNat_of_zero_le b0.1
 obtain ⟨s, rfl, hs⟩ := h1
 obtain ⟨l, hl, rfl⟩ := bstr_of s
 exact ⟨(x0, l), ⟨by show x0 < _; omega, hl⟩, rfl⟩
theorem srcR {w : World} {cs : List Value} (h : Rd w (.label 6) cs) : ∃ x : Nat, x < 4294967296 ∧ ES.R w 0 x cs := by
 obtain ⟨x0, rfl, w0⟩ := h
 have b0 := bounds_u32 w0
 obtain ⟨x0, rfl⟩ := Int.eq_ofNat_of_zero_le b0.1
 exact ⟨x0, by omega, rfl⟩
theorem losR {w : World} {cs : List Value} (h : Rd w losTy cs) : ∃ p : Nat × Nat, (p.1 < 65536 ∧ p.2 < 65536) ∧ EO.R w 0 p cs := by
 obtain ⟨c0, r0, rfl, ⟨x0, rfl, w0⟩, h⟩ := h
 obtain ⟨c1, r1, rfl, ⟨x1, rfl, w1⟩, h⟩ := h
 have hr : r1 = [] := h
 subst hr
 have b0 := bounds_u16 w0
 have b1 := bounds_u16 w1
 obtain ⟨x0, rfl⟩ := Int.eq_ofNat_of_zero_le b0.1
 obtain ⟨x1, rfl⟩ := Int.eq_ofNat_of_zero_le b1.1
 exact ⟨(x0, x1), ⟨by show x0 < _; omega, by show x1 < _; omega⟩, rfl⟩
theorem firR {w : World} {cs : List Value} (h : Rd w firTy cs) : ∃ p : Nat × Nat, (p.1 < 4294967296 ∧ p.2 < 256) ∧ EF.R w 0 p cs := by
 obtain ⟨c0, r0, rfl, ⟨x0, rfl, w0⟩, h⟩ := h
 obtain ⟨c1, r1, rfl, ⟨x1, rfl, w1⟩, h⟩ := h
 have hr : r1 = [] := h
 subst hr
 have b0 := bounds_u32 w0
 have b1 := bounds_u8 w1
 obtain ⟨x0, rfl⟩ := Int.eq_ofNat_of_zero_le b0.1
 obtain ⟨x1, rfl⟩ := Int.eq_ofNat_of_zero_le b1.1
 exact ⟨(x0, x1), ⟨by show x0 < _; omega, by show x1 < _; omega⟩, rfl⟩
theorem ctlR {w : World} {cs : List Value} (h : Rd w ctlTy cs) : ∃ c, CtlWf c ∧ ∃ vr vn vs vl vf, cs = ctlC c vr vn vs vl vf ∧ CtlR w c vr vn vs vl vf := by
 obtain ⟨c0, r0, rfl, ⟨x0, rfl, w0⟩, h⟩ := h
 obtain ⟨c1, r1, rfl, ⟨x1, rfl, w1⟩, h⟩ := h
 obtain ⟨c2, r2, rfl, ⟨x2, rfl, w2⟩, h⟩ := h
 obtain ⟨c3, r3, rfl, ⟨x3, rfl, w3⟩, h⟩ := h
 obtain ⟨c4, r4, rfl, ⟨x4, rfl, w4⟩, h⟩ := h
 obtain ⟨c5, r5, rfl, ⟨x5, rfl, w5⟩, h⟩ := h
 obtain ⟨c6, r6, rfl, ⟨x6, rfl, w6⟩, h⟩ := h
 obtain ⟨c7, r7, rfl, k7, h⟩ := h
 obtain ⟨s7, n7, p7, rfl⟩ := k7.sl2
 obtain ⟨c8, r8, rfl, k8, h⟩ := h
 obtain ⟨s8, n8, p8, rfl⟩ := k8.sl2
 obtain ⟨c9, r9, rfl, k9, h⟩ := h
 obtain ⟨s9, n9, p9, rfl⟩ := k9.sl2
 obtain ⟨c10, r10, rfl, k10, h⟩ := h
 obtain ⟨s10, n10, p10, rfl⟩ := k10.sl2
 obtain ⟨c11, r11, rfl, k11, h⟩ := h
 obtain ⟨s11, n11, p11, rfl⟩ := k11.sl2
 obtain ⟨c12, r12, rfl, ⟨x12, rfl, w12⟩, h⟩ := h
 have hr : r12 = [] := h
 subst hr
 have b0 := bounds_i64 w0
 have b1 := bounds_u32 w1
 have b2 := bounds_u32 w2
 have b3 := bounds_u64 w3
 have b4 := bounds_u32 w4
 have b5 := bounds_u32 w5
 have b6 := bounds_u32 w6
 have b12 := bounds_u64 w12
 obtain ⟨x1, rfl⟩ := Int.eq_ofNat_of_zero_le b1.1
 obtain ⟨x2, rfl⟩ := Int.eq_ofNat_of_zero_le b2.1
 obtain ⟨x3, rfl⟩ := Int.eq_ofNat_of_zero_le b3.1
 obtain ⟨x4, rfl⟩ := Int.eq_ofNat_of_zero_le b4.1
 obtain ⟨x5, rfl⟩ := Int.eq_ofNat_of_zero_le b5.1
 obtain ⟨x6, rfl⟩ := Int.eq_ofNat_of_zero_le b6.1
 obtain ⟨x12, rfl⟩ := Int.eq_ofNat_of_zero_le b12.1
 obtain ⟨L7, H7, q7⟩ := SQ_of_Rd (E := ER) RepWf _ 0 k7 rfl (fun cs h => repR h)
 obtain ⟨L8, H8, q8⟩ := SQ_of_Rd (E := EM) (fun p => p.1 < 4294967296 ∧ ByL p.2) _ 0 k8 rfl (fun cs h => namR h)
 obtain ⟨L9, H9, q9⟩ := SQ_of_Rd (E := ES) (fun x => x < 4294967296) _ 0 k9 rfl (fun cs h => srcR h)
 obtain ⟨L10, H10, q10⟩ := SQ_of_Rd (E := EO) (fun p => p.1 < 65536 ∧ p.2 < 65536) _ 0 k10 rfl (fun cs h => losR h)
 obtain ⟨L11, H11, q11⟩ := SQ_of_Rd (E := EF) (fun p => p.1 < 4294967296 ∧ p.2 < 256) _ 0 k11 rfl (fun cs h => firR h)
 refine ⟨⟨x0, x1, x2, x3, x4, x5, x6, L7, L8, L9, L10, L11, x12⟩, ⟨⟨by show _ ≤ x0; omega, by show x0 ≤ _; omega⟩, by show x1 < _; omega, by show x2 < _; omega, by show x3 < _; omega, by show x4 < _; omega, by show x5 < _; omega, by show x6 < _; omega, by show x12 < _; omega, q7, q8, q9, q10, q11⟩, _, _, _, _, _, rfl, ⟨?_, ?_, ?_, ?_, ?_⟩⟩
 ·have e := H7.1
  dsimp only
  rw [e]; exact H7
 ·have e := H8.1
  dsimp only
  rw [e]; exact H8
 ·have e := H9.1
  dsimp only
  rw [e]; exact H9
 ·have e := H10.1
  dsimp only
  rw [e]; exact H10
 ·have e := H11.1
  dsimp only
  rw [e]; exact H11
theorem ctls_of_Rd {w : World} {sa : Option Addr} {n cap : Nat} (h : Rd w (.loop ctlTy) [.slice sa n cap]) : ∃ L, CtlsR w (.slice sa n cap) n L ∧ ∀ c ∈ L, CtlWf c := by
 obtain ⟨h1, h2, h3⟩ := Rd.slice_at h (by decide)
 by_cases h0 : n = 0
 ·subst h0
  exact ⟨[], ⟨rfl, ⟨sa, cap, rfl, h1, h2⟩, fun _ _ _ h0 => absurd h0 (by decide)⟩, fun c hc => by cases hc⟩
 rcases h3 with ⟨_, h0', _⟩ | ⟨_, h0', _⟩ | ⟨b, o, rfl, hb, _, hi⟩
 ·exact absurd h0' h0
 ·exact absurd h0' h0
 obtain ⟨L, hl, hx⟩ := list_of (fun (c : Ctl) (i : Nat) => CtlWf c ∧ ∃ vr vn vs vl vf, (∀ j, j < 13 → w.cell? ⟨b, o + i * 13 + j, none⟩ = (ctlC c vr vn vs vl vf)[j]?) ∧ CtlR w c vr vn vs vl vf) n id (fun i hin => by
  obtain ⟨cs, k1, k2, k3⟩ := hi i (by omega)
  obtain ⟨c, hwf, vr, vn, vs, vl, vf, rfl, hR⟩ := ctlR k2
  exact ⟨c, hwf, vr, vn, vs, vl, vf, k3, hR⟩)
 refine ⟨L, ⟨hl, ⟨_, _, rfl, h1, h2⟩, fun sa' cap' he _ => ?_⟩, fun c hc => ?_⟩
 ·cases he
  exact ⟨b, o, rfl, hb, fun i hi => (hx i hi).2⟩
 ·obtain ⟨i, hi, rfl⟩ := List.mem_iff_getElem.1 hc
  exact (hx i hi).1
end Go.Proofs.Ytcempndfbckcaaa

namespace Go.Proofs.Ytcempndfbckcaaa
open Go.RowKit
set_option maxRecDepth 100000 in
set_option maxHeartbeats 8000000 in
theorem great_ok (L : List Ctl) (n : Nat) (v : Value) (w : World) (hv : CtlsR w v n L) :
  Calls Try.prog 52 #[v] w fun e w' => (∃ b : Bool, e = .returned (.bool b) ∧ (b = false → n ≤ 60 ∧ ∀ c ∈ L, CtlSm c)) ∧ w = w' := by
 obtain ⟨sa, cap, rfl, hc1, hc2⟩ := hv.sl
 unfold maxLen at hc2
 have hxl := Lib.hid hv.len
 have H := Lib.hid hv
 clear hv
 go_enter Try.func52, Try.ntmps52
 go_upto_region 2 with (fail)
 go_loopg [3] n (fun m' a wx => ∃ j : Nat, m' = n - j ∧ j ≤ n ∧ a = .int .i64 (j : Nat) ∧ Hid (∀ c ∈ L.take j, CtlSm c) ∧ wx = w)
 case atStart => exact ⟨0, rfl, by omega, rfl, Lib.hid (fun c hc => by simp at hc), rfl⟩
 case round =>
  obtain ⟨j, rfl, hj, rfl, hA, hwe⟩ := hrel
  subst hwe
  rename World => w
  by_cases hjn : j < n
  ·have d : decide ((j : Int) < (n : Int)) = true := by simp; omega
   have hjl : j < L.length := by rw [hxl.out]; exact hjn
   obtain ⟨b, o, rfl, -, hc⟩ := H.out.row _ _ rfl (by omega)
   obtain ⟨vr, vn, vs, vl, vf, hx, hR⟩ := hc j hjl
   have hsn := List.take_succ_eq_append_getElem hjl
   clear hc
   generalize L[j] = c at *
   have hnx : CtlSm c → ∀ x ∈ L.take (j + 1), CtlSm x := fun h x hx => by
    rw [hsn] at hx
    rcases List.mem_append.1 hx with hx | hx
    ·exact hA.out x hx
    ·obtain rfl : x = c := by simpa using hx
     exact h
   clear hsn
   obtain ⟨ck, cs, cm, ct, cst, cpk, coc, reps, nams, srcs, loss, firs, crt⟩ := c
   obtain ⟨r1, r2, r3, r4, r5⟩ := hR
   dsimp only at r1 r2 r3 r4 r5 hx
   obtain ⟨ar, ka, rfl, u1, m1⟩ := r1.len
   obtain ⟨an, kb, rfl, u2, m2⟩ := r2.len
   obtain ⟨as_, kc, rfl, u3, m3⟩ := r3.len
   obtain ⟨al, kd, rfl, u4, m4⟩ := r4.len
   obtain ⟨af, ke, rfl, u5, m5⟩ := r5.len
   unfold maxLen at m1 m2 m3 m4 m5
   have hS : ∀ _ : reps.length ≤ 100, nams.length ≤ 100 → srcs.length ≤ 100 → loss.length ≤ 100 → firs.length ≤ 100 → (∀ p ∈ nams, p.2.length ≤ 100) → ∀ x ∈ L.take (j + 1), CtlSm x := fun h1 h2 h3 h4 h5 h6 => hnx ⟨h1, h2, h3, h4, h5, h6⟩
   clear hnx r1 r3 r4 r5
   generalize reps.length = nr at *
   generalize hnn : nams.length = nn at *
   generalize srcs.length = ns at *
   generalize loss.length = nl at *
   generalize firs.length = nf at *
   have z7 : w.cell? ⟨b, o + j * 13 + 7, none⟩ = some (.slice ar nr ka) := hx 7 (by decide)
   have z8 : w.cell? ⟨b, o + j * 13 + 8, none⟩ = some (.slice an nn kb) := hx 8 (by decide)
   have z9 : w.cell? ⟨b, o + j * 13 + 9, none⟩ = some (.slice as_ ns kc) := hx 9 (by decide)
   have z10 : w.cell? ⟨b, o + j * 13 + 10, none⟩ = some (.slice al nl kd) := hx 10 (by decide)
   have z11 : w.cell? ⟨b, o + j * 13 + 11, none⟩ = some (.slice af nf ke) := hx 11 (by decide)
   clear hx hA
   replace r2 := Lib.hid r2
   replace hS := Lib.hid hS
   replace hnn := Lib.hid hnn
   by_cases h1 : 100 < nr
   ·have e1 : decide ((100 : Int) < (nr : Int)) = true := by simp; omega
    go_wp2_with fail
    go_ret
    exact ⟨⟨true, rfl, fun h => by cases h⟩, rfl⟩
   have e1 : decide ((100 : Int) < (nr : Int)) = false := by simp; omega
   by_cases h2 : 100 < nn
   ·have e2 : decide ((100 : Int) < (nn : Int)) = true := by simp; omega
    go_wp2_with fail
    go_ret
    exact ⟨⟨true, rfl, fun h => by cases h⟩, rfl⟩
   have e2 : decide ((100 : Int) < (nn : Int)) = false := by simp; omega
   by_cases h3 : 100 < ns
   ·have e3 : decide ((100 : Int) < (ns : Int)) = true := by simp; omega
    go_wp2_with fail
    go_ret
    exact ⟨⟨true, rfl, fun h => by cases h⟩, rfl⟩
   have e3 : decide ((100 : Int) < (ns : Int)) = false := by simp; omega
   by_cases h4 : 100 < nl
   ·have e4 : decide ((100 : Int) < (nl : Int)) = true := by simp; omega
    go_wp2_with fail
    go_ret
    exact ⟨⟨true, rfl, fun h => by cases h⟩, rfl⟩
   have e4 : decide ((100 : Int) < (nl : Int)) = false := by simp; omega
   by_cases h5 : 100 < nf
   ·have e5 : decide ((100 : Int) < (nf : Int)) = true := by simp; omega
    go_wp2_with fail
    go_ret
    exact ⟨⟨true, rfl, fun h => by cases h⟩, rfl⟩
   have e5 : decide ((100 : Int) < (nf : Int)) = false := by simp; omega
   go_upto_region 7 with (fail)
   clear e1 e2 e3 e4 e5 z7 z9 z10 z11
   go_loopg [4] nn (fun m' a wx => ∃ q : Nat, m' = nn - q ∧ q ≤ nn ∧ a = .int .i64 (q : Nat) ∧ Hid (∀ p ∈ nams.take q, p.2.length ≤ 100) ∧ wx = w)
   case atStart => exact ⟨0, rfl, by omega, rfl, Lib.hid (fun c hc => by simp at hc), rfl⟩
   case round =>
    obtain ⟨q, rfl, hq, rfl, hN, hwe⟩ := hrel
    subst hwe
    rename World => w
    by_cases hqn : q < nn
    ·have dq : decide ((q : Int) < (nn : Int)) = true := by simp; omega
     have hql : q < nams.length := by rw [hnn.out]; exact hqn
     obtain ⟨gn, on, rfl, -, hcn⟩ := sq_cells r2.out (by omega)
     obtain ⟨xs, hxs, hys⟩ := hcn q hql
     replace hxs : xs = namV (nams[q]) := hxs
     have y1 : w.cell? ⟨gn, on + q * 2 + 1, none⟩ = some (.string (bstr (nams[q]).2)) := by
      have h0 := hys 1 (by decide)
      rw [hxs] at h0
      exact h0
     have hsq := List.take_succ_eq_append_getElem hql
     have hsz := bstr_size (nams[q]).2
     clear hcn hys hxs
     generalize nams[q] = p at *
     generalize hpl : p.2.length = pl at *
     by_cases hp : 100 < pl
     ·have ep : decide ((100 : Int) < (pl : Int)) = true := by simp; omega
      go_wp2_with fail
      go_ret
      exact ⟨⟨true, rfl, fun h => by cases h⟩, rfl⟩
     have ep : decide ((100 : Int) < (pl : Int)) = false := by simp; omega
     have hN2 : Hid (∀ x ∈ nams.take (q + 1), x.2.length ≤ 100) := fun x hx => by
      rw [hsq] at hx
      rcases List.mem_append.1 hx with hx | hx
      ·exact hN.out x hx
      ·obtain rfl : x = p := by simpa using hx
       omega
     clear hsq hN
     replace hpl := Lib.hid hpl
     go_wp2_with fail
     go_roundg (nn - (q + 1))
     case measure => omega
     case rel => exact ⟨q + 1, rfl, by omega, by push_cast; rfl, hN2, rfl⟩
    ·obtain rfl : q = nn := by omega
     have dq : decide ((q : Int) < (q : Int)) = false := by simp
     have hAll : Hid (∀ x ∈ L.take (j + 1), CtlSm x) := hS.out (by omega) (by omega) (by omega) (by omega) (by omega) (fun p hp => hN.out p (by rw [← hnn.out, List.take_length]; exact hp))
     clear hS hN
     go_wp2_with fail
     go_roundg (n - (j + 1))
     case measure => omega
     case rel => exact ⟨j + 1, rfl, by omega, by push_cast; rfl, hAll, rfl⟩
  ·obtain rfl : j = n := by omega
   have d : decide ((j : Int) < (j : Int)) = false := by simp
   have hAll : ∀ c ∈ L, CtlSm c := fun c hc => hA.out c (by rw [← hxl.out, List.take_length]; exact hc)
   clear hA
   replace hAll := Lib.hid hAll
   go_wp2_with fail
   go_ret
   exact ⟨⟨_, rfl, fun h => ⟨by have h9 : decide ((60 : Int) < (j : Int)) = false := h; have := of_decide_eq_false h9; omega, hAll.out⟩⟩, rfl⟩
end Go.Proofs.Ytcempndfbckcaaa

namespace Go.Proofs.Ytcempndfbckcaaa
open Go.RowKit
theorem ctls_of_EQ {T : TypeId} {w : World} {base : Nat} {v : Value} {n : Nat} {L : List Ctl} (h : EQ EC T w base v n L) : CtlsR w v n L := by
 obtain ⟨sa, cap, rfl, h1, h2⟩ := h.len
 refine ⟨h.1, ⟨sa, cap, rfl, h1, h2⟩, fun sa' cap' he h0 => ?_⟩
 cases he
 obtain ⟨g, o, cap2, hsl, hb, hlt, _, _, hce⟩ := h.form h0
 simp only [Value.slice.injEq] at hsl
 refine ⟨g, o, hsl.1, hlt, fun i hi => ?_⟩
 obtain ⟨c, ⟨vr, vn, vs, vl, vf, rfl, hC⟩, hcc⟩ := hce i hi
 exact ⟨vr, vn, vs, vl, vf, fun j hj => by rw [← hcc j hj, ← Nat.add_assoc]; rfl, ⟨(hC.r.up (Nat.zero_le _)).sq, (hC.n.up (Nat.zero_le _)).sq, (hC.s.up (Nat.zero_le _)).sq, (hC.l.up (Nat.zero_le _)).sq, (hC.f.up (Nat.zero_le _)).sq⟩⟩
set_option maxRecDepth 100000 in
set_option maxHeartbeats 8000000 in
theorem csames_all (L : List Ctl) (n : Nat) (hn : n ≤ 1000) (sm : ∀ c ∈ L, CtlSm c) (v1 v2 : Value) (w : World) (h1 : CtlsR w v1 n L) (h2 : CtlsR w v2 n L) :
  Calls Try.prog 56 #[v1, v2] w fun e w' => e = .returned (.bool true) ∧ BW w w' := by
 obtain ⟨s1, c1, rfl, -, -⟩ := h1.sl
 obtain ⟨s2, c2, rfl, -, -⟩ := h2.sl
 have hxl := Lib.hid h1.len
 have H1 := Lib.hid h1
 have H2 := Lib.hid h2
 clear h1 h2
 replace sm := Lib.hid sm
 go_enter Try.func56, Try.ntmps56
 go_upto_region 4 with (fail)
 go_loopg [5] n (fun m' a wx => ∃ j : Nat, m' = n - j ∧ j ≤ n ∧ a = .int .i64 (j : Nat) ∧ Hid (BW w wx))
 case atStart => exact ⟨0, rfl, by omega, rfl, BW.refl _⟩
 case round =>
  obtain ⟨j, rfl, hj, rfl, B⟩ := hrel
  by_cases hjn : j < n
  ·have d : decide ((j : Int) < (n : Int)) = true := by simp; omega
   have hjl : j < L.length := by rw [hxl.out]; exact hjn
   obtain ⟨b1, o1, rfl, hb1, hc1⟩ := (H1.out.bw B.out).row _ _ rfl (by omega)
   obtain ⟨b2, o2, rfl, hb2, hc2⟩ := (H2.out.bw B.out).row _ _ rfl (by omega)
   obtain ⟨vr, vn, vs, vl, vf, hx, hR⟩ := hc1 j hjl
   obtain ⟨ur, un, us, ul, uf, hy, hS⟩ := hc2 j hjl
   have sc := sm.out _ (List.getElem_mem hjl)
   clear hc1 hc2
   generalize L[j] = c at *
   obtain ⟨ck, cs, cm, ct, cst, cpk, coc, reps, nams, srcs, loss, firs, crt⟩ := c
   obtain ⟨q1, q2, q3, q4, q5, q6⟩ := sc
   dsimp only at *
   obtain ⟨r1, r2, r3, r4, r5⟩ := hR
   obtain ⟨t1, t2, t3, t4, t5⟩ := hS
   dsimp only at r1 r2 r3 r4 r5 t1 t2 t3 t4 t5
   obtain ⟨ar, ka, rfl, -, -⟩ := r1.len
   obtain ⟨an, kb, rfl, -, -⟩ := r2.len
   obtain ⟨as_, kc, rfl, -, -⟩ := r3.len
   obtain ⟨al, kd, rfl, -, -⟩ := r4.len
   obtain ⟨af, ke, rfl, -, -⟩ := r5.len
   obtain ⟨br, la, rfl, -, -⟩ := t1.len
   obtain ⟨bn, lb, rfl, -, -⟩ := t2.len
   obtain ⟨bs, lc, rfl, -, -⟩ := t3.len
   obtain ⟨bl, ld, rfl, -, -⟩ := t4.len
   obtain ⟨bf, le, rfl, -, -⟩ := t5.len
   have cS := fun wz (h : BW wr wz) => Lib.hid (csame_all ck cs cm ct cst cpk coc crt ar an as_ al af br bn bs bl bf _ _ _ _ _ ka kb kc kd ke la lb lc ld le reps nams srcs loss firs ⟨by omega, by omega, by omega, by omega, by omega⟩ wz (r1.bw h) (r2.bw h) (r3.bw h) (r4.bw h) (r5.bw h) (t1.bw h) (t2.bw h) (t3.bw h) (t4.bw h) (t5.bw h))
   clear r1 r2 r3 r4 r5 t1 t2 t3 t4 t5 q1 q2 q3 q4 q5 q6
   generalize reps.length = nr at *
   generalize nams.length = nn at *
   generalize srcs.length = ns at *
   generalize loss.length = nl at *
   generalize firs.length = nf at *
   have l0 : ∀ y : LaterS [] wr, y.now.cell? ⟨b1, o1 + j * 13, none⟩ = some (.int .i64 ck) := fun y => y.bw.cell (hx 0 (by decide))
   have r0 : ∀ y : LaterS [] wr, y.now.cell? ⟨b2, o2 + j * 13, none⟩ = some (.int .i64 ck) := fun y => y.bw.cell (hy 0 (by decide))
   have l1 : ∀ y : LaterS [] wr, y.now.cell? ⟨b1, o1 + j * 13 + 1, none⟩ = some (.int .u32 (cs : Nat)) := fun y => y.bw.cell (hx 1 (by decide))
   have r1 : ∀ y : LaterS [] wr, y.now.cell? ⟨b2, o2 + j * 13 + 1, none⟩ = some (.int .u32 (cs : Nat)) := fun y => y.bw.cell (hy 1 (by decide))
   have l2 : ∀ y : LaterS [] wr, y.now.cell? ⟨b1, o1 + j * 13 + 2, none⟩ = some (.int .u32 (cm : Nat)) := fun y => y.bw.cell (hx 2 (by decide))
   have r2 : ∀ y : LaterS [] wr, y.now.cell? ⟨b2, o2 + j * 13 + 2, none⟩ = some (.int .u32 (cm : Nat)) := fun y => y.bw.cell (hy 2 (by decide))
   have l3 : ∀ y : LaterS [] wr, y.now.cell? ⟨b1, o1 + j * 13 + 3, none⟩ = some (.int .u64 (ct : Nat)) := fun y => y.bw.cell (hx 3 (by decide))
   have r3 : ∀ y : LaterS [] wr, y.now.cell? ⟨b2, o2 + j * 13 + 3, none⟩ = some (.int .u64 (ct : Nat)) := fun y => y.bw.cell (hy 3 (by decide))
   have l4 : ∀ y : LaterS [] wr, y.now.cell? ⟨b1, o1 + j * 13 + 4, none⟩ = some (.int .u32 (cst : Nat)) := fun y => y.bw.cell (hx 4 (by decide))
   have r4 : ∀ y : LaterS [] wr, y.now.cell? ⟨b2, o2 + j * 13 + 4, none⟩ = some (.int .u32 (cst : Nat)) := fun y => y.bw.cell (hy 4 (by decide))
   have l5 : ∀ y : LaterS [] wr, y.now.cell? ⟨b1, o1 + j * 13 + 5, none⟩ = some (.int .u32 (cpk : Nat)) := fun y => y.bw.cell (hx 5 (by decide))
   have r5 : ∀ y : LaterS [] wr, y.now.cell? ⟨b2, o2 + j * 13 + 5, none⟩ = some (.int .u32 (cpk : Nat)) := fun y => y.bw.cell (hy 5 (by decide))
   have l6 : ∀ y : LaterS [] wr, y.now.cell? ⟨b1, o1 + j * 13 + 6, none⟩ = some (.int .u32 (coc : Nat)) := fun y => y.bw.cell (hx 6 (by decide))
   have r6 : ∀ y : LaterS [] wr, y.now.cell? ⟨b2, o2 + j * 13 + 6, none⟩ = some (.int .u32 (coc : Nat)) := fun y => y.bw.cell (hy 6 (by decide))
   have l7 : ∀ y : LaterS [] wr, y.now.cell? ⟨b1, o1 + j * 13 + 7, none⟩ = some (.slice ar nr ka) := fun y => y.bw.cell (hx 7 (by decide))
   have r7 : ∀ y : LaterS [] wr, y.now.cell? ⟨b2, o2 + j * 13 + 7, none⟩ = some (.slice br nr la) := fun y => y.bw.cell (hy 7 (by decide))
   have l8 : ∀ y : LaterS [] wr, y.now.cell? ⟨b1, o1 + j * 13 + 8, none⟩ = some (.slice an nn kb) := fun y => y.bw.cell (hx 8 (by decide))
   have r8 : ∀ y : LaterS [] wr, y.now.cell? ⟨b2, o2 + j * 13 + 8, none⟩ = some (.slice bn nn lb) := fun y => y.bw.cell (hy 8 (by decide))
   have l9 : ∀ y : LaterS [] wr, y.now.cell? ⟨b1, o1 + j * 13 + 9, none⟩ = some (.slice as_ ns kc) := fun y => y.bw.cell (hx 9 (by decide))
   have r9 : ∀ y : LaterS [] wr, y.now.cell? ⟨b2, o2 + j * 13 + 9, none⟩ = some (.slice bs ns lc) := fun y => y.bw.cell (hy 9 (by decide))
   have l10 : ∀ y : LaterS [] wr, y.now.cell? ⟨b1, o1 + j * 13 + 10, none⟩ = some (.slice al nl kd) := fun y => y.bw.cell (hx 10 (by decide))
   have r10 : ∀ y : LaterS [] wr, y.now.cell? ⟨b2, o2 + j * 13 + 10, none⟩ = some (.slice bl nl ld) := fun y => y.bw.cell (hy 10 (by decide))
   have l11 : ∀ y : LaterS [] wr, y.now.cell? ⟨b1, o1 + j * 13 + 11, none⟩ = some (.slice af nf ke) := fun y => y.bw.cell (hx 11 (by decide))
   have r11 : ∀ y : LaterS [] wr, y.now.cell? ⟨b2, o2 + j * 13 + 11, none⟩ = some (.slice bf nf le) := fun y => y.bw.cell (hy 11 (by decide))
   have l12 : ∀ y : LaterS [] wr, y.now.cell? ⟨b1, o1 + j * 13 + 12, none⟩ = some (.int .u64 (crt : Nat)) := fun y => y.bw.cell (hx 12 (by decide))
   have r12 : ∀ y : LaterS [] wr, y.now.cell? ⟨b2, o2 + j * 13 + 12, none⟩ = some (.int .u64 (crt : Nat)) := fun y => y.bw.cell (hy 12 (by decide))
   clear hx hy
   go_upto_region 6 with (fail)
   refine wp_region_gg [] [] [8] (by kernel_rfl) ?_
   refine hoist [] [] (a1 := ?_) 0 rfl (by kernel_rfl) (.inl ⟨rfl, rfl⟩) rfl rfl rfl (fun x K hK => ?_) ?_
   rotate_left
   ·go_big_quiet_op
    exact hK
   refine hoist [] [] (a1 := ?_) 1 rfl (by kernel_rfl) (.inl ⟨rfl, rfl⟩) rfl rfl rfl (fun x K hK => ?_) ?_
   rotate_left
   ·go_big_quiet_op
    exact hK
   refine hoist [] [] (a1 := ?_) 2 rfl (by kernel_rfl) (.inl ⟨rfl, rfl⟩) rfl rfl rfl (fun x K hK => ?_) ?_
   rotate_left
   ·go_big_quiet_op
    exact hK
   refine hoist [] [] (a1 := ?_) 3 rfl (by kernel_rfl) (.inl ⟨rfl, rfl⟩) rfl rfl rfl (fun x K hK => ?_) ?_
   rotate_left
   ·go_big_quiet_op
    exact hK
   refine hoist [] [] (a1 := ?_) 4 rfl (by kernel_rfl) (.inl ⟨rfl, rfl⟩) rfl rfl rfl (fun x K hK => ?_) ?_
   rotate_left
   ·go_big_quiet_op
    exact hK
   refine hoist [] [] (a1 := ?_) 5 rfl (by kernel_rfl) (.inl ⟨rfl, rfl⟩) rfl rfl rfl (fun x K hK => ?_) ?_
   rotate_left
   ·go_big_quiet_op
    exact hK
   refine hoist [] [] (a1 := ?_) 6 rfl (by kernel_rfl) (.inl ⟨rfl, rfl⟩) rfl rfl rfl (fun x K hK => ?_) ?_
   rotate_left
   ·go_big_quiet_op
    exact hK
   refine hoist [] [] (a1 := ?_) 7 rfl (by kernel_rfl) (.inl ⟨rfl, rfl⟩) rfl rfl rfl (fun x K hK => ?_) ?_
   rotate_left
   ·go_big_quiet_op
    exact hK
   refine tail 8 rfl (by kernel_rfl) rfl (fun xr => ?_)
   simp only [List.drop_succ_cons, List.drop_zero]
   have B1 := Lib.hid xr.bw
   clear l0 r0 l1 r1 l2 r2 l3 r3 l4 r4 l5 r5 l6 r6 l7 r7 l8 r8 l9 r9 l10 r10 l11 r11 l12 r12
   generalize xr.now = w1 at *
   go_wp2_with fail
   refine Calls.mono (cS w1 B1.out).out ?_
   rintro e w2 ⟨rfl, hb⟩
   have B2 := Lib.hid (B.out.trans (B1.out.trans hb))
   clear hb B1 B cS
   dsimp only
   go_wp2_with fail
   go_roundg (n - (j + 1))
   case measure => omega
   case rel => exact ⟨j + 1, rfl, by omega, by push_cast; rfl, B2⟩
  ·have d : decide ((j : Int) < (n : Int)) = false := by simp; omega
   go_wp2_with fail
   go_ret
   exact ⟨rfl, B.out⟩
end Go.Proofs.Ytcempndfbckcaaa
