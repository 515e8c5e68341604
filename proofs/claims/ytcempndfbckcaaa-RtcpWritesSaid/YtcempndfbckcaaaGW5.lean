/- rtcp.readers: a map of eight keys, filled in whatever order. No condition. rtcp.readers: a map of eight keys, filled in whatever order: the walk. No condition. rtcp.packet: of a header and a body that its reader reads whole. No condition but the sizes'. rtcp.Read: of packets one behind the other that their readers read whole. No condition but the sizes'. -/
import Derived.Test.YtcempndfbckcaaaGKi
import Derived.Test.YtcempndfbckcaaaMp
import Derived.Test.YtcempndfbckcaaaUn
import Derived.Test.YtcempndfbckcaaaPre
import Derived.Test.YtcempndfbckcaaaGW4
import Derived.Test.YtcempndfbckcaaaCln
import Derived.Test.YtcempndfbckcaaaGEl
import Derived.Defers
import Derived.Recover
namespace Go.Proofs.Ytcempndfbckcaaa
open Go.RowKit
def fnV (f : FuncId) : Value := .func (.func f) #[] #[]
def kindV (a b : Int) : Value := .agg #[.int .i64 a, .int .i64 b]
def kv (i : Nat) : Value × Value := ([(kindV 200 (-1), fnV 132), (kindV 201 (-1), fnV 133), (kindV 202 (-1), fnV 134), (kindV 203 (-1), fnV 135),
 (kindV 205 1, fnV 136), (kindV 206 1, fnV 137), (kindV 206 4, fnV 138), (kindV 206 15, fnV 139)] : List (Value × Value)).getD i (.nilIface, .nilIface)
theorem kindLaw : Maps.Keyed Try.prog 200 :=
 Maps.Keyed.of_law (deep_law_laid (show laidOutB Try.prog = true by kernel_rfl) (m := 2) (by omega) (of_decide_eq_true (by kernel_rfl)) (by kernel_rfl) (by rw [Try.underlying200]))
theorem kv_keys : (List.range 8).all (fun i => (keyOf Try.prog 200 (kv i).1).isSome) = true := by kernel_rfl
theorem kv_key (i : Nat) (hi : i < 8) : ∃ l, keyOf Try.prog 200 (kv i).1 = some l :=
 Option.isSome_iff_exists.1 (List.all_eq_true.1 kv_keys i (List.mem_range.2 hi))
theorem bw_stl {a b c : World} (h : BW a b) {S : List Nat} (t : Still S b c) (hS : ∀ k ∈ S, a.heap.size ≤ k) : BW a c := h.step (t.below (B := a.heap.size) h.size hS) (Nat.le_refl _)
theorem kv_ne (i j : Nat) (hi : i < 8) (hj : j < 8) (h : i ≠ j) : (kv i).1 ≠ (kv j).1 := by
 match i, hi, j, hj with
 | 0, _, 0, _ | 1, _, 1, _ | 2, _, 2, _ | 3, _, 3, _ | 4, _, 4, _ | 5, _, 5, _ | 6, _, 6, _ | 7, _, 7, _ => exact (h rfl).elim
 | 0, _, 1, _ | 0, _, 2, _ | 0, _, 3, _ | 0, _, 4, _ | 0, _, 5, _ | 0, _, 6, _ | 0, _, 7, _ => simp [kv, kindV]
 | 1, _, 0, _ | 1, _, 2, _ | 1, _, 3, _ | 1, _, 4, _ | 1, _, 5, _ | 1, _, 6, _ | 1, _, 7, _ => simp [kv, kindV]
 | 2, _, 0, _ | 2, _, 1, _ | 2, _, 3, _ | 2, _, 4, _ | 2, _, 5, _ | 2, _, 6, _ | 2, _, 7, _ => simp [kv, kindV]
 | 3, _, 0, _ | 3, _, 1, _ | 3, _, 2, _ | 3, _, 4, _ | 3, _, 5, _ | 3, _, 6, _ | 3, _, 7, _ => simp [kv, kindV]
 | 4, _, 0, _ | 4, _, 1, _ | 4, _, 2, _ | 4, _, 3, _ | 4, _, 5, _ | 4, _, 6, _ | 4, _, 7, _ => simp [kv, kindV]
 | 5, _, 0, _ | 5, _, 1, _ | 5, _, 2, _ | 5, _, 3, _ | 5, _, 4, _ | 5, _, 6, _ | 5, _, 7, _ => simp [kv, kindV]
 | 6, _, 0, _ | 6, _, 1, _ | 6, _, 2, _ | 6, _, 3, _ | 6, _, 4, _ | 6, _, 5, _ | 6, _, 7, _ => simp [kv, kindV]
 | 7, _, 0, _ | 7, _, 1, _ | 7, _, 2, _ | 7, _, 3, _ | 7, _, 4, _ | 7, _, 5, _ | 7, _, 6, _ => simp [kv, kindV]
def KvIn (w0 : World) (g : Nat) (b : List Bool) (w : World) : Prop := w0.heap.size ≤ g ∧ BW w0 w ∧ ∃ s, MapIn w g s ∧ ∀ p, p ∈ s ↔ ∃ i, i < 8 ∧ b.getD i false = true ∧ p = kv i
theorem KvIn.still {w0 : World} {g : Nat} {b : List Bool} {w w' : World} (h : KvIn w0 g b w) (hs : Still [] w w') : KvIn w0 g b w' := by
 obtain ⟨h0, hb, s, hm, hp⟩ := h
 exact ⟨h0, hb.trans (BW.ofStill hs), s, hm.still hs (by simp), hp⟩
theorem KvIn.ins {w0 : World} {g : Nat} {b : List Bool} {w : World} (h : KvIn w0 g b w) (hbl : b.length = 8) (i : Nat) (hi : i < 8) (hf : b.getD i true = false) :
  ∃ w', (Instr.mapUpdate 203 (.map (some g)) (kv i).1 (kv i).2).run Try.prog w = .ok () w' ∧ KvIn w0 g (b.set i true) w' := by
 obtain ⟨h0, hb, s, hm, hp⟩ := h
 have hkeys : ∀ p ∈ s, ∃ l, keyOf Try.prog 200 p.1 = some l := fun p hpm => by
  obtain ⟨j, hj, _, rfl⟩ := (hp p).1 hpm
  exact kv_key j hj
 obtain ⟨l, hl⟩ := kv_key i hi
 have hfi : b.getD i false = false := by
  rw [List.getD_eq_getElem?_getD, List.getElem?_eq_getElem (by omega)] at hf ⊢
  simpa using hf
 have hnew : ∀ p ∈ s, p.1 ≠ (kv i).1 := fun p hpm => by
  obtain ⟨j, hj, hbj, rfl⟩ := (hp p).1 hpm
  refine kv_ne j i hj hi fun e => ?_
  rw [e, hfi] at hbj
  cases hbj
 obtain ⟨w', h1, h2, h3⟩ := hm.insert kindLaw Try.underlying203 hkeys hl hnew (val := (kv i).2)
 refine ⟨w', h1, h0, bw_stl hb h3 (by simpa using h0), _, h2, fun p => ?_⟩
 rw [List.mem_append, hp p, List.mem_singleton]
 constructor
 ·rintro (⟨j, hj, hbj, rfl⟩ | rfl)
  ·refine ⟨j, hj, ?_, rfl⟩
   rw [List.getD_eq_getElem?_getD, List.getElem?_set]
   split
   ·rw [if_pos (by omega)]; rfl
   ·rw [← List.getD_eq_getElem?_getD]; exact hbj
  ·refine ⟨i, hi, ?_, rfl⟩
   rw [List.getD_eq_getElem?_getD, List.getElem?_set_self (by omega)]; rfl
 ·rintro ⟨j, hj, hbj, rfl⟩
  by_cases e : i = j
  ·subst e; exact .inr rfl
  ·refine .inl ⟨j, hj, ?_, rfl⟩
   rw [List.getD_eq_getElem?_getD, List.getElem?_set_ne e, ← List.getD_eq_getElem?_getD] at hbj
   exact hbj
theorem wp_ins {a : Act} {o : Oper} {w w0 : World} {K : Act → World → Prop} {Q : Exit → Act → World → Prop} {g i : Nat} {b : List Bool} {k : Operand} {f : Operand} (ho : o.op = .insert 203 (.tmp 1) k f) (hd : o.dst = none)
  (hm : a.eval (.tmp 1) = .map (some g)) (hk : a.eval k = (kv i).1) (hf : a.eval f = (kv i).2) (h : KvIn w0 g b w) (hbl : b.length = 8) (hi : i < 8) (hfl : b.getD i true = false) (hK : ∀ w', KvIn w0 g (b.set i true) w' → K a w') : o.wp Try.prog a w K Q := by
 obtain ⟨w', h1, h2⟩ := h.ins hbl i hi hfl
 unfold Oper.wp
 simp only [execOp, ho, hm, hk, hf]
 simp [h1, Result.andThen, Oper.upon, Act.put, hd]
 exact hK w' h2
end Go.Proofs.Ytcempndfbckcaaa

namespace Go.Proofs.Ytcempndfbckcaaa
open Go.RowKit
theorem KvIn.made (w : World) (g : Nat) (hg : g = w.heap.size) : KvIn w g (List.replicate 8 false) (w.alloc (.map #[] 0)) := by
 subst hg
 refine ⟨Nat.le_refl _, (BW.refl w).alloc, [], MapIn.made w, fun p => ⟨fun h => by simp at h, fun ⟨i, hi, h, _⟩ => ?_⟩⟩
 rw [List.getD_eq_getElem?_getD, List.getElem?_replicate_of_lt hi] at h
 cases h
set_option maxRecDepth 100000 in
set_option maxHeartbeats 8000000 in
theorem readers_ok (w : World) : Calls Try.prog 119 #[] w fun e w' => ∃ g, e = .returned (.map (some g)) ∧ KvIn w g (List.replicate 8 true) w' := by
 go_enter Try.func119, Try.ntmps119
 go_upto_region 1 with (fail)
 refine wp_region_gl [] [] [] [2, 4, 6, 8, 10, 12, 14, 16] (by kernel_rfl) ?_
 refine hoistP (a1 := ?_) (v := kindV 200 (-1)) 1 rfl (by kernel_rfl) rfl (fun x => by kernel_rfl) ?_ ?_
 rotate_left
 ·simp only [Act.put, List.setIfInBounds_toArray, List.set_cons_succ, List.set_cons_zero]; rfl
 refine hoistP (a1 := ?_) (v := kindV 201 (-1)) 3 rfl (by kernel_rfl) rfl (fun x => by kernel_rfl) ?_ ?_
 rotate_left
 ·simp only [Act.put, List.setIfInBounds_toArray, List.set_cons_succ, List.set_cons_zero]; rfl
 refine hoistP (a1 := ?_) (v := kindV 202 (-1)) 5 rfl (by kernel_rfl) rfl (fun x => by kernel_rfl) ?_ ?_
 rotate_left
 ·simp only [Act.put, List.setIfInBounds_toArray, List.set_cons_succ, List.set_cons_zero]; rfl
 refine hoistP (a1 := ?_) (v := kindV 203 (-1)) 7 rfl (by kernel_rfl) rfl (fun x => by kernel_rfl) ?_ ?_
 rotate_left
 ·simp only [Act.put, List.setIfInBounds_toArray, List.set_cons_succ, List.set_cons_zero]; rfl
 refine hoistP (a1 := ?_) (v := kindV 205 1) 9 rfl (by kernel_rfl) rfl (fun x => by kernel_rfl) ?_ ?_
 rotate_left
 ·simp only [Act.put, List.setIfInBounds_toArray, List.set_cons_succ, List.set_cons_zero]; rfl
 refine hoistP (a1 := ?_) (v := kindV 206 1) 11 rfl (by kernel_rfl) rfl (fun x => by kernel_rfl) ?_ ?_
 rotate_left
 ·simp only [Act.put, List.setIfInBounds_toArray, List.set_cons_succ, List.set_cons_zero]; rfl
 refine hoistP (a1 := ?_) (v := kindV 206 4) 13 rfl (by kernel_rfl) rfl (fun x => by kernel_rfl) ?_ ?_
 rotate_left
 ·simp only [Act.put, List.setIfInBounds_toArray, List.set_cons_succ, List.set_cons_zero]; rfl
 refine hoistP (a1 := ?_) (v := kindV 206 15) 15 rfl (by kernel_rfl) rfl (fun x => by kernel_rfl) ?_ ?_
 rotate_left
 ·simp only [Act.put, List.setIfInBounds_toArray, List.set_cons_succ, List.set_cons_zero]; rfl
 refine effect 0 rfl (by kernel_rfl) (by kernel_rfl) rfl (fun x0 K hK => ?_)
 unfold Oper.wp
 simp only [execOp]
 have hrun : ∀ W : World, (Instr.makeMap 203 none).run Try.prog W = .ok (.map (some W.heap.size)) (W.alloc (.map #[] 0)) := fun W => rfl
 simp [hrun, Result.andThen]
 refine hK _ _ (Still.of_below ((Below.refl _ _).alloc (Nat.le_refl _) _)) ?_
 clear hK K
 simp only [Act.put, List.setIfInBounds_toArray, List.set_cons_succ, List.set_cons_zero]
 have hI := KvIn.made x0.now x0.now.heap.size rfl
 have BX := Lib.hid x0.bw
 generalize x0.now.heap.size = g at *
 have hI2 : KvIn w g (List.replicate 8 false) (x0.now.alloc (.map #[] 0)) := by
  obtain ⟨h0, hb, s, hm, hp⟩ := hI
  exact ⟨Nat.le_trans BX.out.size h0, BX.out.trans hb, s, hm, hp⟩
 clear hI BX
 have hb0 : (List.replicate 8 false).length = 8 := rfl
 have hh : [true, true, false, true, false, true, false, true, false, true, false, true, false, true, false, true, false, false, false] = lst [true, true, false, true, false, true, false, true, false, true, false, true, false, true, false, true, false, false, false] [2, 4, 6, 8, 10, 12, 14, 16] (List.replicate 8 false) := by kernel_rfl
 refine (unordered (base := [true, true, false, true, false, true, false, true, false, true, false, true, false, true, false, true, false, false, false]) [2, 4, 6, 8, 10, 12, 14, 16] (by kernel_rfl) (n := 8) rfl (f := 2) ?_ (fun b w' => b.length = 8 ∧ KvIn w g b w') ?_ ?_ ?_ 8 (List.replicate 8 false) rfl rfl _ ⟨rfl, hI2⟩ : _)
 ·intro t ht
  simp only [List.mem_cons, List.not_mem_nil, or_false] at ht
  rcases ht with rfl | rfl | rfl | rfl | rfl | rfl | rfl | rfl <;> exact ⟨_, rfl, rfl, by kernel_rfl⟩
 ·exact fun b w1 w2 h hs => ⟨h.1, h.2.still hs⟩
 ·rintro b i hi hf w1 ⟨hbl, h⟩ o ho K hK
  match i, hi with
  | 0, hi | 1, hi | 2, hi | 3, hi | 4, hi | 5, hi | 6, hi | 7, hi =>
   cases ho
   exact wp_ins rfl rfl rfl rfl rfl h hbl hi hf fun w' hw' => hK w' ⟨by rw [List.length_set]; exact hbl, hw'⟩
 ·rintro w1 ⟨_, hK⟩
  rw [show lst [true, true, false, true, false, true, false, true, false, true, false, true, false, true, false, true, false, false, false] [2, 4, 6, 8, 10, 12, 14, 16] (List.replicate 8 true) = [true, true, true, true, true, true, true, true, true, true, true, true, true, true, true, true, true, false, false] by kernel_rfl]
  refine hoist [] [] (a1 := ?_) 17 rfl (by kernel_rfl) (.inl ⟨rfl, rfl⟩) rfl rfl rfl (fun x K hK => ?_) ?_
  rotate_left
  ·go_big_quiet_op
   exact hK
  refine hoist [] [] (a1 := ?_) 18 rfl (by kernel_rfl) (.inl ⟨rfl, rfl⟩) rfl rfl rfl (fun x K hK => ?_) ?_
  rotate_left
  ·go_big_quiet_op
   exact hK
  refine done (by kernel_rfl) (fun xr => ?_)
  replace hK := Lib.hid (hK.still xr.ok)
  go_wp2_with fail
  go_ret
  exact ⟨g, rfl, hK.out⟩
end Go.Proofs.Ytcempndfbckcaaa

namespace Go.Proofs.Ytcempndfbckcaaa
open Go.RowKit
set_option maxRecDepth 1000000 in
set_option maxHeartbeats 8000000 in
theorem kv_look {w0 w : World} {g : Nat} (h : KvIn w0 g (List.replicate 8 true) w) (i : Nat) (hi : i < 8) :
  (Instr.lookup 203 (.map (some g)) (kv i).1 true).run Try.prog w = .ok (.tuple #[(kv i).2, .bool true]) w := by
 obtain ⟨_, _, s, hm, hp⟩ := h
 have hkeys : ∀ p ∈ s, ∃ l, keyOf Try.prog 200 p.1 = some l := fun p hpm => by
  obtain ⟨j, hj, _, rfl⟩ := (hp p).1 hpm
  exact kv_key j hj
 obtain ⟨l, hl⟩ := kv_key i hi
 have hz : (zeroValue 201).run Try.prog w = .ok .nilFunc w := by kernel_rfl
 have hin : kv i ∈ s := (hp _).2 ⟨i, hi, by match i, hi with | 0, _ | 1, _ | 2, _ | 3, _ | 4, _ | 5, _ | 6, _ | 7, _ => rfl, rfl⟩
 rcases hm.look kindLaw Try.underlying203 hkeys hz hl with ⟨v, h1, h2⟩ | ⟨h1, _⟩
 ·obtain ⟨j, hj, _, he⟩ := (hp _).1 h1
  have hij : i = j := by
   refine Decidable.byContradiction fun hne => kv_ne i j hi hj hne ?_
   rw [← he]
  subst hij
  rw [h2 true, if_pos rfl, show v = (kv i).2 from by rw [← he]]
 ·exact (h1 _ hin rfl).elim
structure PartOk (b : List Nat) (c : Ctl) : Prop where
 ex : ∃ (i cnt t x y : Nat) (k : Int) (l : List Nat) (F : FuncId), i < 8 ∧ kv i = (kindV (t : Nat) k, fnV F) ∧ k = (if t = 205 ∨ t = 206 then (cnt : Int) else -1) ∧ cnt ≤ 31 ∧ t ≤ 255 ∧ x ≤ 255 ∧ y ≤ 255 ∧ l.length ≤ 1000000 ∧ ReadsTo F cnt l c ∧ (∀ (args : Array Value) (w : World), (callFunc F args).run Try.prog w = .ok (.enter F args) w) ∧ b = (128 + cnt) :: t :: x :: y :: l ∧ l.length = 4 * (256 * x + y)
set_option maxRecDepth 100000 in
set_option maxHeartbeats 8000000 in
theorem packet_ok (b : List Nat) (c : Ctl) (hp : PartOk b c) (v : Value) (n : Nat) (w : World) (hv : SB w v n b) :
  Calls Try.prog 91 #[v] w fun e w' => ∃ vr vn vs vl vf, e = .returned (.agg (ctlC c vr vn vs vl vf).toArray) ∧ CtlV w' w.heap.size c vr vn vs vl vf ∧ BW w w' := by
 obtain ⟨i, cnt, t, x, y, k, l, F, hi, hkv, hk, hc, ht, hx, hy, hll, hF, hN, rfl, hxy⟩ := hp
 obtain ⟨sa, cap, rfl, hcap, hm⟩ := hv.len
 unfold maxLen at hm
 have hn : n = l.length + 4 := by have := hv.1; simp at this; omega
 subst hn
 obtain ⟨q, o, cap', hsl, _, _, hq, hcell⟩ := hv.form (by omega)
 obtain ⟨rfl, rfl⟩ : sa = some ⟨q, o, none⟩ ∧ cap = cap' := by simpa using hsl
 clear hsl
 have a0 := hcell 0 (by omega)
 have a1 := hcell 1 (by omega)
 simp only [List.getD_cons_zero, List.getD_cons_succ, Nat.add_zero] at a0 a1
 have hcut := fun w => run_cut_l (P := Try.prog) Try.underlying36 info_u8 (some ⟨q, o, none⟩) (l.length + 4) cap 4 4 rfl .i64 (by omega) w
 simp only [Nat.add_sub_cancel] at hcut
 have hv4 := hv.cut 4 (l.length + 4) cap (by omega) (Nat.le_refl _) hcap (Nat.le_refl _)
 have e4 : (((128 + cnt) :: t :: x :: y :: l).drop 4).take (l.length + 4 - 4) = l := by
  rw [Nat.add_sub_cancel]
  exact List.take_length
 rw [e4, Nat.add_sub_cancel] at hv4
 have cc := fun w h => Lib.hid (clone_ok (cutA (some ⟨q, o, none⟩) 4 cap 1) l.length (cap - 4) l (by omega) w h)
 have hsh : ((128 + cnt : Nat) : Int) / 32 = 4 := by omega
 have han : bits .and .u8 ((128 + cnt : Nat) : Int) 31 = (cnt : Nat) := by
  refine (u8_and_nat (128 + cnt) 31 (by omega) (by omega)).trans ?_
  rw [nat_mask5]
  omega
 generalize (128 + cnt) = b0 at *
 have hs4 : cutA (some ⟨q, o, none⟩) 4 cap 1 = if cap = 4 then some ⟨q, o, none⟩ else some ⟨q, o + 4, none⟩ := by
  unfold cutA
  split <;> simp [Addr.add]
 rw [hs4] at hv4 cc
 clear hxy hcut hs4
 have hlen := hll
 generalize hln : l.length = ln at *
 replace hln := Lib.hid hln
 replace hv4 := Lib.hid hv4
 clear hcell e4 hv
 have BA : BW w (w.alloc (.cells #[.int .i64 0, .int .u32 0, .int .u32 0, .int .u64 0, .int .u32 0, .int .u32 0, .int .u32 0, .slice none 0 0, .slice none 0 0, .slice none 0 0, .slice none 0 0, .slice none 0 0, .int .u64 0] 111)) := (BW.refl _).alloc
 have X1 := Lib.hid (HpB.new w (.cells #[.int .i64 0, .int .u32 0, .int .u32 0, .int .u64 0, .int .u32 0, .int .u32 0, .int .u32 0, .slice none 0 0, .slice none 0 0, .slice none 0 0, .slice none 0 0, .slice none 0 0, .int .u64 0] 111))
 have V1 := Lib.hid (hv4.out.bw BA)
 have b1 := BA.cell a0
 have b2 := BA.cell a1
 clear a0 a1
 go_enter Try.func91, Try.ntmps91
 go_upto_region 1 with (fail)
 have B1 := Lib.hid BA
 generalize (w.alloc _) = w1 at *
 clear BA
 go_wp2_with fail
 refine Calls.mono (need_ok w1) ?_
 rintro e w' ⟨rfl, rfl⟩
 dsimp only
 go_upto_region 2 with (fail)
 have l0 : ∀ z : LaterS [] w1, z.now.cell? ⟨q, o, none⟩ = some (.int .u8 (b0 : Nat)) := fun z => z.bw.cell b1
 refine wp_region_gg [] [] [8] (by kernel_rfl) ?_
 refine hoist [] [] (a1 := ?_) 0 rfl (by kernel_rfl) (.inl ⟨rfl, rfl⟩) rfl rfl rfl (fun x K hK => ?_) ?_
 rotate_left
 ·go_big_quiet_op
  exact hK
 refine hoist [] [] (a1 := ?_) 1 rfl (by kernel_rfl) (.inl ⟨rfl, rfl⟩) rfl rfl rfl (fun x K hK => ?_) ?_
 rotate_left
 ·go_big_quiet_op
  exact hK
 refine hoist [] [] (a1 := ?_) 2 rfl (by kernel_rfl) (.inl ⟨rfl, rfl⟩) rfl rfl rfl (fun x K hK => ?_) ?_
 rotate_left
 ·go_big_quiet_op
  exact hK
 refine hoist [] [] (a1 := ?_) 3 rfl (by kernel_rfl) (.inl ⟨rfl, rfl⟩) rfl rfl rfl (fun x K hK => ?_) ?_
 rotate_left
 ·go_big_quiet_op
  exact hK
 refine hoist [] [] (a1 := ?_) 4 rfl (by kernel_rfl) (.inl ⟨rfl, rfl⟩) rfl rfl rfl (fun x K hK => ?_) ?_
 rotate_left
 ·go_big_quiet_op
  exact hK
 refine hoist [] [] (a1 := ?_) 5 rfl (by kernel_rfl) (.inl ⟨rfl, rfl⟩) rfl rfl rfl (fun x K hK => ?_) ?_
 rotate_left
 ·go_big_quiet_op
  exact hK
 refine hoist [] [] (a1 := ?_) 6 rfl (by kernel_rfl) (.inl ⟨rfl, rfl⟩) rfl rfl rfl (fun x K hK => ?_) ?_
 rotate_left
 ·go_big_quiet_op
  exact hK
 refine effect 7 rfl (by kernel_rfl) (by kernel_rfl) rfl (fun x7 K hK => ?_)
 go_simp
 refine Calls.mono (cc x7.now (V1.out.bw x7.bw)).out ?_
 rintro e w2 ⟨v2, rfl, O2, hb⟩
 replace hb : BW x7.now w2 := BW.of hb
 refine hK _ _ (hb.still []) ?_
 clear hK K
 have B2 := Lib.hid ((B1.out.trans x7.bw).trans hb)
 have X2 := Lib.hid ((X1.out.bw x7.bw).bw hb)
 have b3 := (x7.bw.trans hb).cell b2
 replace O2 := Lib.hid (O2.base (Nat.le_trans B1.out.size x7.bw.size))
 clear hb l0 b1 b2 B1 X1 V1
 try simp only [Act.put, List.setIfInBounds_toArray, List.set_cons_succ, List.set_cons_zero]
 refine tail 8 rfl (by kernel_rfl) rfl (fun xr => ?_)
 simp only [List.drop_succ_cons, List.drop_zero]
 obtain ⟨s2, c2, rfl, hc2, hm2⟩ := O2.out.len
 generalize (if cap = 4 then some (⟨q, o, none⟩ : Addr) else some ⟨q, o + 4, none⟩) = s4 at *
 unfold maxLen at hm2
 generalize hti : (t : Int) = ti at *
 have B3 := B2.out.trans xr.bw
 have X3 := X2.out.bw xr.bw
 have b4 := xr.bw.cell b3
 have BC : BW xr.now (xr.now.alloc (.cells #[.int .i64 (cnt : Nat), .slice s2 ln c2] 198)) := (BW.refl _).alloc
 have B4 := Lib.hid (B3.trans BC)
 have X4 := Lib.hid (X3.bw BC)
 have O4 := Lib.hid ((O2.out.bw xr.bw).bw BC)
 have D4 := Lib.hid (HpB.new xr.now (.cells #[.int .i64 (cnt : Nat), .slice s2 ln c2] 198))
 have a4 := BC.cell b4
 have hgb : w.heap.size < xr.now.heap.size := X3.lt
 clear B3 X3 b4 b3 B2 X2 O2
 go_upto_region 3 with (fail)
 generalize (xr.now.alloc _) = w4 at *
 generalize xr.now.heap.size = gb at *
 have hgb4 := D4.out.lt
 have BD : BW w4 (w4.alloc (.cells #[.int .i64 ti, .int .i64 (-1)] 200)) := (BW.refl _).alloc
 have B5 := Lib.hid (B4.out.trans BD)
 have X5 := Lib.hid (X4.out.bw BD)
 have O5 := Lib.hid (O4.out.bw BD)
 have D5 := Lib.hid (D4.out.bw BD)
 have K5 := Lib.hid (HpB.new w4 (.cells #[.int .i64 ti, .int .i64 (-1)] 200))
 have hgk : w.heap.size < w4.heap.size := X4.out.lt
 clear B4 X4 O4 D4 BC
 replace BD := Lib.hid BD
 go_upto_region 4 with (fail)
 generalize (w4.alloc _) = w5 at *
 generalize w4.heap.size = gk at *
 clear a4 BD
 have k0 := hp_cell K5.out 0
 have k1 := hp_cell K5.out 1
 have f1 := hp_frz K5.out 1
 simp only [List.getElem?_toArray, List.getElem?_cons_zero, List.getElem?_cons_succ] at k0 k1
 have d0 := hp_cell D5.out 0
 simp only [List.getElem?_toArray, List.getElem?_cons_zero] at d0
 by_cases h5 : ti = 205
 ·have d1 : (ti == 205) = true := by simpa using h5
  have TS := still_sc w5 gk 1 (.int .i64 (cnt : Nat))
  have K6 : Hid (HpB (w5.setCell ⟨gk, 1, none⟩ (.int .i64 (cnt : Nat))) gk (.cells #[.int .i64 ti, .int .i64 (cnt : Nat)] 200)) := hp_set K5.out 1 _
  have B6 := Lib.hid (B5.out.stP TS (fun z hz => by obtain rfl : z = gk := (by simpa using hz); omega))
  have X6 := Lib.hid (X5.out.st TS (by simp; omega))
  have D6 := Lib.hid (D5.out.st TS (by simp; omega))
  have O6 := Lib.hid (O5.out.still TS (fun z hz hm => by obtain rfl : z = gk := (by simpa using hm); exact O5.out.2.2.ne K5.out (by decide) _ hz rfl))
  obtain rfl : k = (cnt : Int) := by rw [hk, if_pos (by omega)]
  clear B5 X5 D5 O5 K5 TS hk
  clear h5
  go_upto_region 6 with (fail)
  clear k0 k1 f1 d0
  generalize (w5.setCell _ _) = w6 at *
  have k0 := hp_cell K6.out 0
  have k1 := hp_cell K6.out 1
  simp only [List.getElem?_toArray, List.getElem?_cons_zero, List.getElem?_cons_succ] at k0 k1
  have l0 : ∀ z : LaterS [] w6, z.now.cell? ⟨gk, 0, none⟩ = _ := fun z => z.bw.cell k0
  have l1 : ∀ z : LaterS [] w6, z.now.cell? ⟨gk, 1, none⟩ = _ := fun z => z.bw.cell k1
  clear k0 k1
  refine wp_region_gg [] [] [] (by kernel_rfl) ?_
  refine hoist [] [] (a1 := ?_) 1 rfl (by kernel_rfl) (.inl ⟨rfl, rfl⟩) rfl rfl rfl (fun x K hK => ?_) ?_
  rotate_left
  ·go_big_quiet_op
   exact hK
  refine effect 0 rfl (by kernel_rfl) (by kernel_rfl) rfl (fun x0 K hK => ?_)
  go_simp
  refine Calls.mono (readers_ok x0.now) ?_
  rintro e w7 ⟨gm, rfl, M⟩
  refine hK _ _ (M.2.1.still []) ?_
  clear hK K
  have hb := x0.bw.trans M.2.1
  have B7 := Lib.hid (B6.out.trans hb)
  have X7 := Lib.hid (X6.out.bw hb)
  have D7 := Lib.hid (D6.out.bw hb)
  have O7 := Lib.hid (O6.out.bw hb)
  have l2 := fun z : LaterS [] w7 => kv_look (M.still z.ok) i hi
  rw [hkv] at l2
  unfold kindV fnV at l2
  replace l0 : ∀ z : LaterS [] w7, z.now.cell? ⟨gk, 0, none⟩ = _ := fun z => z.bw.cell (hb.cell (l0 (LaterS.first [] _)))
  replace l1 : ∀ z : LaterS [] w7, z.now.cell? ⟨gk, 1, none⟩ = _ := fun z => z.bw.cell (hb.cell (l1 (LaterS.first [] _)))
  clear hb M B6 X6 D6 O6 K6
  try simp only [Act.put, List.setIfInBounds_toArray, List.set_cons_succ, List.set_cons_zero]
  refine hoist [] [] (a1 := ?_) 2 rfl (by kernel_rfl) (.inl ⟨rfl, rfl⟩) rfl rfl rfl (fun x K hK => ?_) ?_
  rotate_left
  ·go_big_quiet_op
   exact hK
  refine hoist [] [] (a1 := ?_) 3 rfl (by kernel_rfl) (.inl ⟨rfl, rfl⟩) rfl rfl rfl (fun x K hK => ?_) ?_
  rotate_left
  ·go_big_quiet_op
   exact hK
  refine hoist [] [] (a1 := ?_) 4 rfl (by kernel_rfl) (.inl ⟨rfl, rfl⟩) rfl rfl rfl (fun x K hK => ?_) ?_
  rotate_left
  ·go_big_quiet_op
   exact hK
  refine hoist [] [] (a1 := ?_) 5 rfl (by kernel_rfl) (.inl ⟨rfl, rfl⟩) rfl rfl rfl (fun x K hK => ?_) ?_
  rotate_left
  ·go_big_quiet_op
   exact hK
  refine hoist [] [] (a1 := ?_) 6 rfl (by kernel_rfl) (.inl ⟨rfl, rfl⟩) rfl rfl rfl (fun x K hK => ?_) ?_
  rotate_left
  ·go_big_quiet_op
   exact hK
  refine hoist [] [] (a1 := ?_) 7 rfl (by kernel_rfl) (.inl ⟨rfl, rfl⟩) rfl rfl rfl (fun x K hK => ?_) ?_
  rotate_left
  ·go_big_quiet_op
   exact hK
  refine done (by kernel_rfl) (fun xr => ?_)
  have l3 := l2 xr
  have B8 := Lib.hid (B7.out.trans xr.bw)
  have X8 := Lib.hid (X7.out.bw xr.bw)
  have D8 := Lib.hid (show BdV xr.now w.heap.size gb cnt l from ⟨_, D7.out.bw xr.bw, by rw [hln.out]; exact O7.out.bw xr.bw⟩)
  clear l0 l1 l2 B7 X7 D7 O7
  generalize xr.now = w8 at *
  go_upto_region 7 with (fail)
  clear l3
  go_wp2_with fail
  refine Calls.mono (need_ok w8) ?_
  rintro e w' ⟨rfl, rfl⟩
  dsimp only
  have cF := Lib.hid (hF w.heap.size gb w8 D8.out)
  clear D8
  go_wp2_with fail
  refine Calls.mono cF.out ?_
  rintro e w9 ⟨vr, vn, vs, vl, vf, rfl, C9, D9, T9⟩
  obtain ⟨sr, cr, rfl, _, _⟩ := C9.r.len
  obtain ⟨sn, cn, rfl, _, _⟩ := C9.n.len
  obtain ⟨ss, cs2, rfl, _, _⟩ := C9.s.len
  obtain ⟨sl, cl, rfl, _, _⟩ := C9.l.len
  obtain ⟨sf, cf, rfl, _, _⟩ := C9.f.len
  have B9 := Lib.hid (B8.out.stP T9 (fun z hz => by obtain rfl : z = gb := (by simpa using hz); omega))
  have X9 := Lib.hid (X8.out.st T9 (by simp; omega))
  have h89 := Lib.hid (Nat.le_trans B8.out.size (Nat.le_refl _))
  have C10 := Lib.hid (C9.up h89.out)
  clear B8 X8 T9 cF C9 h89
  obtain ⟨ck, cs, cm, ct, cst, cpk, coc, creps, cnams, csrcs, closs, cfirs, crt⟩ := c
  dsimp only at C10
  unfold ctlC
  dsimp only
  generalize hnr : creps.length = nr at *
  generalize hnn : cnams.length = nn at *
  generalize hns : csrcs.length = ns at *
  generalize hnl : closs.length = nl at *
  generalize hnf : cfirs.length = nf at *
  replace hnr := Lib.hid hnr
  replace hnn := Lib.hid hnn
  replace hns := Lib.hid hns
  replace hnl := Lib.hid hnl
  replace hnf := Lib.hid hnf
  obtain ⟨v10, H10, O10⟩ := D9
  obtain ⟨s10, c10, rfl, _, _⟩ := O10.len
  simp only [List.length_nil] at H10
  have e1 := hp_cell H10 1
  simp only [List.getElem?_toArray, List.getElem?_cons_zero, List.getElem?_cons_succ] at e1
  clear H10 O10
  have BE : BW w9 (w9.alloc (.cells #[.int .i64 ck, .int .u32 (cs : Nat), .int .u32 (cm : Nat), .int .u64 (ct : Nat), .int .u32 (cst : Nat), .int .u32 (cpk : Nat), .int .u32 (coc : Nat), .slice sr nr cr, .slice sn nn cn, .slice ss ns cs2, .slice sl nl cl, .slice sf nf cf, .int .u64 (crt : Nat)] 111)) := (BW.refl _).alloc
  have Y11 := Lib.hid (HpB.new w9 (.cells #[.int .i64 ck, .int .u32 (cs : Nat), .int .u32 (cm : Nat), .int .u64 (ct : Nat), .int .u32 (cst : Nat), .int .u32 (cpk : Nat), .int .u32 (coc : Nat), .slice sr nr cr, .slice sn nn cn, .slice ss ns cs2, .slice sl nl cl, .slice sf nf cf, .int .u64 (crt : Nat)] 111))
  have B11 := Lib.hid (B9.out.trans BE)
  have X11 := Lib.hid (X9.out.bw BE)
  have C11 := Lib.hid (C10.out.bw BE)
  have e2 := BE.cell e1
  clear B9 X9 C10
  replace BE := Lib.hid BE
  go_upto_region 9 with (fail)
  generalize (w9.alloc _) = w11 at *
  generalize w9.heap.size = g11 at *
  clear e1 BE
  go_wp2_with fail
  refine Calls.mono (need_ok w11) ?_
  rintro e w' ⟨rfl, rfl⟩
  dsimp only
  have u0 := hp_cell (Y11.out) 0
  have u1 := hp_cell (Y11.out) 1
  have u2 := hp_cell (Y11.out) 2
  have u3 := hp_cell (Y11.out) 3
  have u4 := hp_cell (Y11.out) 4
  have u5 := hp_cell (Y11.out) 5
  have u6 := hp_cell (Y11.out) 6
  have u7 := hp_cell (Y11.out) 7
  have u8 := hp_cell (Y11.out) 8
  have u9 := hp_cell (Y11.out) 9
  have u10 := hp_cell (Y11.out) 10
  have u11 := hp_cell (Y11.out) 11
  have u12 := hp_cell (Y11.out) 12
  simp only [List.getElem?_toArray, List.getElem?_cons_zero, List.getElem?_cons_succ] at u0 u1 u2 u3 u4 u5 u6 u7 u8 u9 u10 u11 u12
  have z0 := hp_cell (X11.out) 0
  have y0 := hp_frz (X11.out) 0
  have z1 := hp_cell (X11.out) 1
  have y1 := hp_frz (X11.out) 1
  have z2 := hp_cell (X11.out) 2
  have y2 := hp_frz (X11.out) 2
  have z3 := hp_cell (X11.out) 3
  have y3 := hp_frz (X11.out) 3
  have z4 := hp_cell (X11.out) 4
  have y4 := hp_frz (X11.out) 4
  have z5 := hp_cell (X11.out) 5
  have y5 := hp_frz (X11.out) 5
  have z6 := hp_cell (X11.out) 6
  have y6 := hp_frz (X11.out) 6
  have z7 := hp_cell (X11.out) 7
  have y7 := hp_frz (X11.out) 7
  have z8 := hp_cell (X11.out) 8
  have y8 := hp_frz (X11.out) 8
  have z9 := hp_cell (X11.out) 9
  have y9 := hp_frz (X11.out) 9
  have z10 := hp_cell (X11.out) 10
  have y10 := hp_frz (X11.out) 10
  have z11 := hp_cell (X11.out) 11
  have y11 := hp_frz (X11.out) 11
  have z12 := hp_cell (X11.out) 12
  have y12 := hp_frz (X11.out) 12
  simp only [List.getElem?_toArray, List.getElem?_cons_zero, List.getElem?_cons_succ] at z0 z1 z2 z3 z4 z5 z6 z7 z8 z9 z10 z11 z12
  have hg0 := Lib.hid (show w.heap.size < w11.heap.size from X11.out.lt)
  have TS := still_st13 w11 w.heap.size (.int .i64 ck) (.int .u32 (cs : Nat)) (.int .u32 (cm : Nat)) (.int .u64 (ct : Nat)) (.int .u32 (cst : Nat)) (.int .u32 (cpk : Nat)) (.int .u32 (coc : Nat)) (.slice sr nr cr) (.slice sn nn cn) (.slice ss ns cs2) (.slice sl nl cl) (.slice sf nf cf) (.int .u64 (crt : Nat))
  have B12 := Lib.hid (B11.out.stP TS (fun z hz => by obtain rfl : z = w.heap.size := (by simpa using hz); exact Nat.le_refl _))
  have X12 := Lib.hid (HpB.st13 X11.out rfl (.int .i64 ck) (.int .u32 (cs : Nat)) (.int .u32 (cm : Nat)) (.int .u64 (ct : Nat)) (.int .u32 (cst : Nat)) (.int .u32 (cpk : Nat)) (.int .u32 (coc : Nat)) (.slice sr nr cr) (.slice sn nn cn) (.slice ss ns cs2) (.slice sl nl cl) (.slice sf nf cf) (.int .u64 (crt : Nat)))
  have C12 := Lib.hid (C11.out.still TS (fun z hz => by obtain rfl : z = w.heap.size := (by simpa using hz); exact .inr ⟨_, _, _, X11.out, by decide, by decide, by decide, by decide, by decide⟩))
  clear B11 X11 C11 Y11 TS
  go_wp2_with fail
  refine bodyPost_ret (results_cell_row (p := 2) rfl _ _ w.heap.size _ _ _ _ rfl X12.out Try.underlying111 rfl (by kernel_rfl)) rfl ?_
  refine ⟨_, _, _, _, _, rfl, ?_, B12.out⟩
  have C13 := C12.out
  rw [← hnr.out, ← hnn.out, ← hns.out, ← hnl.out, ← hnf.out] at C13
  rw [← hnr.out, ← hnn.out, ← hns.out, ← hnl.out, ← hnf.out]
  exact C13
 by_cases h6 : ti = 206
 ·have d1 : (ti == 205) = false := by simpa using h5
  have d2 : (ti == 206) = true := by simpa using h6
  have TS := still_sc w5 gk 1 (.int .i64 (cnt : Nat))
  have K6 : Hid (HpB (w5.setCell ⟨gk, 1, none⟩ (.int .i64 (cnt : Nat))) gk (.cells #[.int .i64 ti, .int .i64 (cnt : Nat)] 200)) := hp_set K5.out 1 _
  have B6 := Lib.hid (B5.out.stP TS (fun z hz => by obtain rfl : z = gk := (by simpa using hz); omega))
  have X6 := Lib.hid (X5.out.st TS (by simp; omega))
  have D6 := Lib.hid (D5.out.st TS (by simp; omega))
  have O6 := Lib.hid (O5.out.still TS (fun z hz hm => by obtain rfl : z = gk := (by simpa using hm); exact O5.out.2.2.ne K5.out (by decide) _ hz rfl))
  obtain rfl : k = (cnt : Int) := by rw [hk, if_pos (by omega)]
  clear B5 X5 D5 O5 K5 TS hk
  clear h5 h6
  go_upto_region 6 with (fail)
  clear k0 k1 f1 d0
  generalize (w5.setCell _ _) = w6 at *
  have k0 := hp_cell K6.out 0
  have k1 := hp_cell K6.out 1
  simp only [List.getElem?_toArray, List.getElem?_cons_zero, List.getElem?_cons_succ] at k0 k1
  have l0 : ∀ z : LaterS [] w6, z.now.cell? ⟨gk, 0, none⟩ = _ := fun z => z.bw.cell k0
  have l1 : ∀ z : LaterS [] w6, z.now.cell? ⟨gk, 1, none⟩ = _ := fun z => z.bw.cell k1
  clear k0 k1
  refine wp_region_gg [] [] [] (by kernel_rfl) ?_
  refine hoist [] [] (a1 := ?_) 1 rfl (by kernel_rfl) (.inl ⟨rfl, rfl⟩) rfl rfl rfl (fun x K hK => ?_) ?_
  rotate_left
  ·go_big_quiet_op
   exact hK
  refine effect 0 rfl (by kernel_rfl) (by kernel_rfl) rfl (fun x0 K hK => ?_)
  go_simp
  refine Calls.mono (readers_ok x0.now) ?_
  rintro e w7 ⟨gm, rfl, M⟩
  refine hK _ _ (M.2.1.still []) ?_
  clear hK K
  have hb := x0.bw.trans M.2.1
  have B7 := Lib.hid (B6.out.trans hb)
  have X7 := Lib.hid (X6.out.bw hb)
  have D7 := Lib.hid (D6.out.bw hb)
  have O7 := Lib.hid (O6.out.bw hb)
  have l2 := fun z : LaterS [] w7 => kv_look (M.still z.ok) i hi
  rw [hkv] at l2
  unfold kindV fnV at l2
  replace l0 : ∀ z : LaterS [] w7, z.now.cell? ⟨gk, 0, none⟩ = _ := fun z => z.bw.cell (hb.cell (l0 (LaterS.first [] _)))
  replace l1 : ∀ z : LaterS [] w7, z.now.cell? ⟨gk, 1, none⟩ = _ := fun z => z.bw.cell (hb.cell (l1 (LaterS.first [] _)))
  clear hb M B6 X6 D6 O6 K6
  try simp only [Act.put, List.setIfInBounds_toArray, List.set_cons_succ, List.set_cons_zero]
  refine hoist [] [] (a1 := ?_) 2 rfl (by kernel_rfl) (.inl ⟨rfl, rfl⟩) rfl rfl rfl (fun x K hK => ?_) ?_
  rotate_left
  ·go_big_quiet_op
   exact hK
  refine hoist [] [] (a1 := ?_) 3 rfl (by kernel_rfl) (.inl ⟨rfl, rfl⟩) rfl rfl rfl (fun x K hK => ?_) ?_
  rotate_left
  ·go_big_quiet_op
   exact hK
  refine hoist [] [] (a1 := ?_) 4 rfl (by kernel_rfl) (.inl ⟨rfl, rfl⟩) rfl rfl rfl (fun x K hK => ?_) ?_
  rotate_left
  ·go_big_quiet_op
   exact hK
  refine hoist [] [] (a1 := ?_) 5 rfl (by kernel_rfl) (.inl ⟨rfl, rfl⟩) rfl rfl rfl (fun x K hK => ?_) ?_
  rotate_left
  ·go_big_quiet_op
   exact hK
  refine hoist [] [] (a1 := ?_) 6 rfl (by kernel_rfl) (.inl ⟨rfl, rfl⟩) rfl rfl rfl (fun x K hK => ?_) ?_
  rotate_left
  ·go_big_quiet_op
   exact hK
  refine hoist [] [] (a1 := ?_) 7 rfl (by kernel_rfl) (.inl ⟨rfl, rfl⟩) rfl rfl rfl (fun x K hK => ?_) ?_
  rotate_left
  ·go_big_quiet_op
   exact hK
  refine done (by kernel_rfl) (fun xr => ?_)
  have l3 := l2 xr
  have B8 := Lib.hid (B7.out.trans xr.bw)
  have X8 := Lib.hid (X7.out.bw xr.bw)
  have D8 := Lib.hid (show BdV xr.now w.heap.size gb cnt l from ⟨_, D7.out.bw xr.bw, by rw [hln.out]; exact O7.out.bw xr.bw⟩)
  clear l0 l1 l2 B7 X7 D7 O7
  generalize xr.now = w8 at *
  go_upto_region 7 with (fail)
  clear l3
  go_wp2_with fail
  refine Calls.mono (need_ok w8) ?_
  rintro e w' ⟨rfl, rfl⟩
  dsimp only
  have cF := Lib.hid (hF w.heap.size gb w8 D8.out)
  clear D8
  go_wp2_with fail
  refine Calls.mono cF.out ?_
  rintro e w9 ⟨vr, vn, vs, vl, vf, rfl, C9, D9, T9⟩
  obtain ⟨sr, cr, rfl, _, _⟩ := C9.r.len
  obtain ⟨sn, cn, rfl, _, _⟩ := C9.n.len
  obtain ⟨ss, cs2, rfl, _, _⟩ := C9.s.len
  obtain ⟨sl, cl, rfl, _, _⟩ := C9.l.len
  obtain ⟨sf, cf, rfl, _, _⟩ := C9.f.len
  have B9 := Lib.hid (B8.out.stP T9 (fun z hz => by obtain rfl : z = gb := (by simpa using hz); omega))
  have X9 := Lib.hid (X8.out.st T9 (by simp; omega))
  have h89 := Lib.hid (Nat.le_trans B8.out.size (Nat.le_refl _))
  have C10 := Lib.hid (C9.up h89.out)
  clear B8 X8 T9 cF C9 h89
  obtain ⟨ck, cs, cm, ct, cst, cpk, coc, creps, cnams, csrcs, closs, cfirs, crt⟩ := c
  dsimp only at C10
  unfold ctlC
  dsimp only
  generalize hnr : creps.length = nr at *
  generalize hnn : cnams.length = nn at *
  generalize hns : csrcs.length = ns at *
  generalize hnl : closs.length = nl at *
  generalize hnf : cfirs.length = nf at *
  replace hnr := Lib.hid hnr
  replace hnn := Lib.hid hnn
  replace hns := Lib.hid hns
  replace hnl := Lib.hid hnl
  replace hnf := Lib.hid hnf
  obtain ⟨v10, H10, O10⟩ := D9
  obtain ⟨s10, c10, rfl, _, _⟩ := O10.len
  simp only [List.length_nil] at H10
  have e1 := hp_cell H10 1
  simp only [List.getElem?_toArray, List.getElem?_cons_zero, List.getElem?_cons_succ] at e1
  clear H10 O10
  have BE : BW w9 (w9.alloc (.cells #[.int .i64 ck, .int .u32 (cs : Nat), .int .u32 (cm : Nat), .int .u64 (ct : Nat), .int .u32 (cst : Nat), .int .u32 (cpk : Nat), .int .u32 (coc : Nat), .slice sr nr cr, .slice sn nn cn, .slice ss ns cs2, .slice sl nl cl, .slice sf nf cf, .int .u64 (crt : Nat)] 111)) := (BW.refl _).alloc
  have Y11 := Lib.hid (HpB.new w9 (.cells #[.int .i64 ck, .int .u32 (cs : Nat), .int .u32 (cm : Nat), .int .u64 (ct : Nat), .int .u32 (cst : Nat), .int .u32 (cpk : Nat), .int .u32 (coc : Nat), .slice sr nr cr, .slice sn nn cn, .slice ss ns cs2, .slice sl nl cl, .slice sf nf cf, .int .u64 (crt : Nat)] 111))
  have B11 := Lib.hid (B9.out.trans BE)
  have X11 := Lib.hid (X9.out.bw BE)
  have C11 := Lib.hid (C10.out.bw BE)
  have e2 := BE.cell e1
  clear B9 X9 C10
  replace BE := Lib.hid BE
  go_upto_region 9 with (fail)
  generalize (w9.alloc _) = w11 at *
  generalize w9.heap.size = g11 at *
  clear e1 BE
  go_wp2_with fail
  refine Calls.mono (need_ok w11) ?_
  rintro e w' ⟨rfl, rfl⟩
  dsimp only
  have u0 := hp_cell (Y11.out) 0
  have u1 := hp_cell (Y11.out) 1
  have u2 := hp_cell (Y11.out) 2
  have u3 := hp_cell (Y11.out) 3
  have u4 := hp_cell (Y11.out) 4
  have u5 := hp_cell (Y11.out) 5
  have u6 := hp_cell (Y11.out) 6
  have u7 := hp_cell (Y11.out) 7
  have u8 := hp_cell (Y11.out) 8
  have u9 := hp_cell (Y11.out) 9
  have u10 := hp_cell (Y11.out) 10
  have u11 := hp_cell (Y11.out) 11
  have u12 := hp_cell (Y11.out) 12
  simp only [List.getElem?_toArray, List.getElem?_cons_zero, List.getElem?_cons_succ] at u0 u1 u2 u3 u4 u5 u6 u7 u8 u9 u10 u11 u12
  have z0 := hp_cell (X11.out) 0
  have y0 := hp_frz (X11.out) 0
  have z1 := hp_cell (X11.out) 1
  have y1 := hp_frz (X11.out) 1
  have z2 := hp_cell (X11.out) 2
  have y2 := hp_frz (X11.out) 2
  have z3 := hp_cell (X11.out) 3
  have y3 := hp_frz (X11.out) 3
  have z4 := hp_cell (X11.out) 4
  have y4 := hp_frz (X11.out) 4
  have z5 := hp_cell (X11.out) 5
  have y5 := hp_frz (X11.out) 5
  have z6 := hp_cell (X11.out) 6
  have y6 := hp_frz (X11.out) 6
  have z7 := hp_cell (X11.out) 7
  have y7 := hp_frz (X11.out) 7
  have z8 := hp_cell (X11.out) 8
  have y8 := hp_frz (X11.out) 8
  have z9 := hp_cell (X11.out) 9
  have y9 := hp_frz (X11.out) 9
  have z10 := hp_cell (X11.out) 10
  have y10 := hp_frz (X11.out) 10
  have z11 := hp_cell (X11.out) 11
  have y11 := hp_frz (X11.out) 11
  have z12 := hp_cell (X11.out) 12
  have y12 := hp_frz (X11.out) 12
  simp only [List.getElem?_toArray, List.getElem?_cons_zero, List.getElem?_cons_succ] at z0 z1 z2 z3 z4 z5 z6 z7 z8 z9 z10 z11 z12
  have hg0 := Lib.hid (show w.heap.size < w11.heap.size from X11.out.lt)
  have TS := still_st13 w11 w.heap.size (.int .i64 ck) (.int .u32 (cs : Nat)) (.int .u32 (cm : Nat)) (.int .u64 (ct : Nat)) (.int .u32 (cst : Nat)) (.int .u32 (cpk : Nat)) (.int .u32 (coc : Nat)) (.slice sr nr cr) (.slice sn nn cn) (.slice ss ns cs2) (.slice sl nl cl) (.slice sf nf cf) (.int .u64 (crt : Nat))
  have B12 := Lib.hid (B11.out.stP TS (fun z hz => by obtain rfl : z = w.heap.size := (by simpa using hz); exact Nat.le_refl _))
  have X12 := Lib.hid (HpB.st13 X11.out rfl (.int .i64 ck) (.int .u32 (cs : Nat)) (.int .u32 (cm : Nat)) (.int .u64 (ct : Nat)) (.int .u32 (cst : Nat)) (.int .u32 (cpk : Nat)) (.int .u32 (coc : Nat)) (.slice sr nr cr) (.slice sn nn cn) (.slice ss ns cs2) (.slice sl nl cl) (.slice sf nf cf) (.int .u64 (crt : Nat)))
  have C12 := Lib.hid (C11.out.still TS (fun z hz => by obtain rfl : z = w.heap.size := (by simpa using hz); exact .inr ⟨_, _, _, X11.out, by decide, by decide, by decide, by decide, by decide⟩))
  clear B11 X11 C11 Y11 TS
  go_wp2_with fail
  refine bodyPost_ret (results_cell_row (p := 2) rfl _ _ w.heap.size _ _ _ _ rfl X12.out Try.underlying111 rfl (by kernel_rfl)) rfl ?_
  refine ⟨_, _, _, _, _, rfl, ?_, B12.out⟩
  have C13 := C12.out
  rw [← hnr.out, ← hnn.out, ← hns.out, ← hnl.out, ← hnf.out] at C13
  rw [← hnr.out, ← hnn.out, ← hns.out, ← hnl.out, ← hnf.out]
  exact C13
 ·have d1 : (ti == 205) = false := by simpa using h5
  have d2 : (ti == 206) = false := by simpa using h6
  obtain rfl : k = -1 := by rw [hk, if_neg (by omega)]
  clear hk h5 h6
  go_upto_region 6 with (fail)
  obtain ⟨w6, hw6⟩ : ∃ w6, w6 = w5 := ⟨_, rfl⟩
  rw [← hw6] at B5 X5 D5 O5 K5 ⊢
  clear hw6 k0 k1 f1 d0
  have B6 := B5
  have X6 := X5
  have D6 := D5
  have O6 := O5
  have K6 := K5
  clear B5 X5 D5 O5 K5
  have k0 := hp_cell K6.out 0
  have k1 := hp_cell K6.out 1
  simp only [List.getElem?_toArray, List.getElem?_cons_zero, List.getElem?_cons_succ] at k0 k1
  have l0 : ∀ z : LaterS [] w6, z.now.cell? ⟨gk, 0, none⟩ = _ := fun z => z.bw.cell k0
  have l1 : ∀ z : LaterS [] w6, z.now.cell? ⟨gk, 1, none⟩ = _ := fun z => z.bw.cell k1
  clear k0 k1
  refine wp_region_gg [] [] [] (by kernel_rfl) ?_
  refine hoist [] [] (a1 := ?_) 1 rfl (by kernel_rfl) (.inl ⟨rfl, rfl⟩) rfl rfl rfl (fun x K hK => ?_) ?_
  rotate_left
  ·go_big_quiet_op
   exact hK
  refine effect 0 rfl (by kernel_rfl) (by kernel_rfl) rfl (fun x0 K hK => ?_)
  go_simp
  refine Calls.mono (readers_ok x0.now) ?_
  rintro e w7 ⟨gm, rfl, M⟩
  refine hK _ _ (M.2.1.still []) ?_
  clear hK K
  have hb := x0.bw.trans M.2.1
  have B7 := Lib.hid (B6.out.trans hb)
  have X7 := Lib.hid (X6.out.bw hb)
  have D7 := Lib.hid (D6.out.bw hb)
  have O7 := Lib.hid (O6.out.bw hb)
  have l2 := fun z : LaterS [] w7 => kv_look (M.still z.ok) i hi
  rw [hkv] at l2
  unfold kindV fnV at l2
  replace l0 : ∀ z : LaterS [] w7, z.now.cell? ⟨gk, 0, none⟩ = _ := fun z => z.bw.cell (hb.cell (l0 (LaterS.first [] _)))
  replace l1 : ∀ z : LaterS [] w7, z.now.cell? ⟨gk, 1, none⟩ = _ := fun z => z.bw.cell (hb.cell (l1 (LaterS.first [] _)))
  clear hb M B6 X6 D6 O6 K6
  try simp only [Act.put, List.setIfInBounds_toArray, List.set_cons_succ, List.set_cons_zero]
  refine hoist [] [] (a1 := ?_) 2 rfl (by kernel_rfl) (.inl ⟨rfl, rfl⟩) rfl rfl rfl (fun x K hK => ?_) ?_
  rotate_left
  ·go_big_quiet_op
   exact hK
  refine hoist [] [] (a1 := ?_) 3 rfl (by kernel_rfl) (.inl ⟨rfl, rfl⟩) rfl rfl rfl (fun x K hK => ?_) ?_
  rotate_left
  ·go_big_quiet_op
   exact hK
  refine hoist [] [] (a1 := ?_) 4 rfl (by kernel_rfl) (.inl ⟨rfl, rfl⟩) rfl rfl rfl (fun x K hK => ?_) ?_
  rotate_left
  ·go_big_quiet_op
   exact hK
  refine hoist [] [] (a1 := ?_) 5 rfl (by kernel_rfl) (.inl ⟨rfl, rfl⟩) rfl rfl rfl (fun x K hK => ?_) ?_
  rotate_left
  ·go_big_quiet_op
   exact hK
  refine hoist [] [] (a1 := ?_) 6 rfl (by kernel_rfl) (.inl ⟨rfl, rfl⟩) rfl rfl rfl (fun x K hK => ?_) ?_
  rotate_left
  ·go_big_quiet_op
   exact hK
  refine hoist [] [] (a1 := ?_) 7 rfl (by kernel_rfl) (.inl ⟨rfl, rfl⟩) rfl rfl rfl (fun x K hK => ?_) ?_
  rotate_left
  ·go_big_quiet_op
   exact hK
  refine done (by kernel_rfl) (fun xr => ?_)
  have l3 := l2 xr
  have B8 := Lib.hid (B7.out.trans xr.bw)
  have X8 := Lib.hid (X7.out.bw xr.bw)
  have D8 := Lib.hid (show BdV xr.now w.heap.size gb cnt l from ⟨_, D7.out.bw xr.bw, by rw [hln.out]; exact O7.out.bw xr.bw⟩)
  clear l0 l1 l2 B7 X7 D7 O7
  generalize xr.now = w8 at *
  go_upto_region 7 with (fail)
  clear l3
  go_wp2_with fail
  refine Calls.mono (need_ok w8) ?_
  rintro e w' ⟨rfl, rfl⟩
  dsimp only
  have cF := Lib.hid (hF w.heap.size gb w8 D8.out)
  clear D8
  go_wp2_with fail
  refine Calls.mono cF.out ?_
  rintro e w9 ⟨vr, vn, vs, vl, vf, rfl, C9, D9, T9⟩
  obtain ⟨sr, cr, rfl, _, _⟩ := C9.r.len
  obtain ⟨sn, cn, rfl, _, _⟩ := C9.n.len
  obtain ⟨ss, cs2, rfl, _, _⟩ := C9.s.len
  obtain ⟨sl, cl, rfl, _, _⟩ := C9.l.len
  obtain ⟨sf, cf, rfl, _, _⟩ := C9.f.len
  have B9 := Lib.hid (B8.out.stP T9 (fun z hz => by obtain rfl : z = gb := (by simpa using hz); omega))
  have X9 := Lib.hid (X8.out.st T9 (by simp; omega))
  have h89 := Lib.hid (Nat.le_trans B8.out.size (Nat.le_refl _))
  have C10 := Lib.hid (C9.up h89.out)
  clear B8 X8 T9 cF C9 h89
  obtain ⟨ck, cs, cm, ct, cst, cpk, coc, creps, cnams, csrcs, closs, cfirs, crt⟩ := c
  dsimp only at C10
  unfold ctlC
  dsimp only
  generalize hnr : creps.length = nr at *
  generalize hnn : cnams.length = nn at *
  generalize hns : csrcs.length = ns at *
  generalize hnl : closs.length = nl at *
  generalize hnf : cfirs.length = nf at *
  replace hnr := Lib.hid hnr
  replace hnn := Lib.hid hnn
  replace hns := Lib.hid hns
  replace hnl := Lib.hid hnl
  replace hnf := Lib.hid hnf
  obtain ⟨v10, H10, O10⟩ := D9
  obtain ⟨s10, c10, rfl, _, _⟩ := O10.len
  simp only [List.length_nil] at H10
  have e1 := hp_cell H10 1
  simp only [List.getElem?_toArray, List.getElem?_cons_zero, List.getElem?_cons_succ] at e1
  clear H10 O10
  have BE : BW w9 (w9.alloc (.cells #[.int .i64 ck, .int .u32 (cs : Nat), .int .u32 (cm : Nat), .int .u64 (ct : Nat), .int .u32 (cst : Nat), .int .u32 (cpk : Nat), .int .u32 (coc : Nat), .slice sr nr cr, .slice sn nn cn, .slice ss ns cs2, .slice sl nl cl, .slice sf nf cf, .int .u64 (crt : Nat)] 111)) := (BW.refl _).alloc
  have Y11 := Lib.hid (HpB.new w9 (.cells #[.int .i64 ck, .int .u32 (cs : Nat), .int .u32 (cm : Nat), .int .u64 (ct : Nat), .int .u32 (cst : Nat), .int .u32 (cpk : Nat), .int .u32 (coc : Nat), .slice sr nr cr, .slice sn nn cn, .slice ss ns cs2, .slice sl nl cl, .slice sf nf cf, .int .u64 (crt : Nat)] 111))
  have B11 := Lib.hid (B9.out.trans BE)
  have X11 := Lib.hid (X9.out.bw BE)
  have C11 := Lib.hid (C10.out.bw BE)
  have e2 := BE.cell e1
  clear B9 X9 C10
  replace BE := Lib.hid BE
  go_upto_region 9 with (fail)
  generalize (w9.alloc _) = w11 at *
  generalize w9.heap.size = g11 at *
  clear e1 BE
  go_wp2_with fail
  refine Calls.mono (need_ok w11) ?_
  rintro e w' ⟨rfl, rfl⟩
  dsimp only
  have u0 := hp_cell (Y11.out) 0
  have u1 := hp_cell (Y11.out) 1
  have u2 := hp_cell (Y11.out) 2
  have u3 := hp_cell (Y11.out) 3
  have u4 := hp_cell (Y11.out) 4
  have u5 := hp_cell (Y11.out) 5
  have u6 := hp_cell (Y11.out) 6
  have u7 := hp_cell (Y11.out) 7
  have u8 := hp_cell (Y11.out) 8
  have u9 := hp_cell (Y11.out) 9
  have u10 := hp_cell (Y11.out) 10
  have u11 := hp_cell (Y11.out) 11
  have u12 := hp_cell (Y11.out) 12
  simp only [List.getElem?_toArray, List.getElem?_cons_zero, List.getElem?_cons_succ] at u0 u1 u2 u3 u4 u5 u6 u7 u8 u9 u10 u11 u12
  have z0 := hp_cell (X11.out) 0
  have y0 := hp_frz (X11.out) 0
  have z1 := hp_cell (X11.out) 1
  have y1 := hp_frz (X11.out) 1
  have z2 := hp_cell (X11.out) 2
  have y2 := hp_frz (X11.out) 2
  have z3 := hp_cell (X11.out) 3
  have y3 := hp_frz (X11.out) 3
  have z4 := hp_cell (X11.out) 4
  have y4 := hp_frz (X11.out) 4
  have z5 := hp_cell (X11.out) 5
  have y5 := hp_frz (X11.out) 5
  have z6 := hp_cell (X11.out) 6
  have y6 := hp_frz (X11.out) 6
  have z7 := hp_cell (X11.out) 7
  have y7 := hp_frz (X11.out) 7
  have z8 := hp_cell (X11.out) 8
  have y8 := hp_frz (X11.out) 8
  have z9 := hp_cell (X11.out) 9
  have y9 := hp_frz (X11.out) 9
  have z10 := hp_cell (X11.out) 10
  have y10 := hp_frz (X11.out) 10
  have z11 := hp_cell (X11.out) 11
  have y11 := hp_frz (X11.out) 11
  have z12 := hp_cell (X11.out) 12
  have y12 := hp_frz (X11.out) 12
  simp only [List.getElem?_toArray, List.getElem?_cons_zero, List.getElem?_cons_succ] at z0 z1 z2 z3 z4 z5 z6 z7 z8 z9 z10 z11 z12
  have hg0 := Lib.hid (show w.heap.size < w11.heap.size from X11.out.lt)
  have TS := still_st13 w11 w.heap.size (.int .i64 ck) (.int .u32 (cs : Nat)) (.int .u32 (cm : Nat)) (.int .u64 (ct : Nat)) (.int .u32 (cst : Nat)) (.int .u32 (cpk : Nat)) (.int .u32 (coc : Nat)) (.slice sr nr cr) (.slice sn nn cn) (.slice ss ns cs2) (.slice sl nl cl) (.slice sf nf cf) (.int .u64 (crt : Nat))
  have B12 := Lib.hid (B11.out.stP TS (fun z hz => by obtain rfl : z = w.heap.size := (by simpa using hz); exact Nat.le_refl _))
  have X12 := Lib.hid (HpB.st13 X11.out rfl (.int .i64 ck) (.int .u32 (cs : Nat)) (.int .u32 (cm : Nat)) (.int .u64 (ct : Nat)) (.int .u32 (cst : Nat)) (.int .u32 (cpk : Nat)) (.int .u32 (coc : Nat)) (.slice sr nr cr) (.slice sn nn cn) (.slice ss ns cs2) (.slice sl nl cl) (.slice sf nf cf) (.int .u64 (crt : Nat)))
  have C12 := Lib.hid (C11.out.still TS (fun z hz => by obtain rfl : z = w.heap.size := (by simpa using hz); exact .inr ⟨_, _, _, X11.out, by decide, by decide, by decide, by decide, by decide⟩))
  clear B11 X11 C11 Y11 TS
  go_wp2_with fail
  refine bodyPost_ret (results_cell_row (p := 2) rfl _ _ w.heap.size _ _ _ _ rfl X12.out Try.underlying111 rfl (by kernel_rfl)) rfl ?_
  refine ⟨_, _, _, _, _, rfl, ?_, B12.out⟩
  have C13 := C12.out
  rw [← hnr.out, ← hnn.out, ← hns.out, ← hnl.out, ← hnf.out] at C13
  rw [← hnr.out, ← hnn.out, ← hns.out, ← hnl.out, ← hnf.out]
  exact C13
end Go.Proofs.Ytcempndfbckcaaa

namespace Go.Proofs.Ytcempndfbckcaaa
open Go.RowKit
set_option maxRecDepth 100000 in
set_option maxHeartbeats 8000000 in
theorem rd_idle (p q : Addr) (w : World) :
  CallsD Try.prog 89 #[.pointer (some p), .pointer (some q)] .returning w fun e u' w' => e = .returned (.tuple #[]) ∧ u' = .returning ∧ w' = w := by
 refine callsD_of_wpS Try.func89 rfl fun c₀ cs hu => ?_
 apply wpS_seq
 apply wpS_region
 simp [wpOpsS, go_sem, recoverD, hu, Try.ntmps89, Exit.thenS]
 refine wpS_of_wp ?_
 simp only [Array.replicate, List.replicate, List.setIfInBounds_toArray, List.set_cons_zero, List.set_cons_succ, List.append_toArray, List.cons_append, List.nil_append]
 go_wp2_with fail
 cases c₀
 simp_all [bodyPostS, results, Try.results89, Exit.thenS]
theorem SB.takeH {w : World} {a : Option Addr} {n cap : Nat} {l : List Nat} (h : SB w (.slice a n cap) n l) (k : Nat) (hk : k ≤ n) : SB w (.slice a k cap) k (l.take k) := by
 obtain ⟨sa, c, he, hc, hm⟩ := h.len
 cases he
 have h1 := h.cut 0 k cap (Nat.zero_le _) hk (by omega) (Nat.le_refl _)
 simpa [cutA_zero] using h1
theorem PartOk.num {b : List Nat} {c : Ctl} (h : PartOk b c) : ∃ q, b.length = 4 + 4 * q ∧ q ≤ 65535 ∧ ∀ r, numB (((b ++ r).drop 2).take 2) = q := by
 obtain ⟨i, cnt, t, x, y, k, l, F, _, _, _, _, _, hx, hy, _, _, _, rfl, hl⟩ := h
 refine ⟨256 * x + y, by simp [hl]; omega, by omega, fun r => ?_⟩
 simp [numB]
 try omega
def restB (L : List (List Nat × Ctl)) (k : Nat) : List Nat := ((L.drop k).map Prod.fst).flatten
theorem restB_succ (L : List (List Nat × Ctl)) (k : Nat) (h : k < L.length) : restB L k = (L[k]).1 ++ restB L (k + 1) := by
 unfold restB
 rw [List.drop_eq_getElem_cons h, List.map_cons, List.flatten_cons]
theorem restB_end (L : List (List Nat × Ctl)) : restB L L.length = [] := by simp [restB]
set_option maxRecDepth 100000 in
set_option maxHeartbeats 8000000 in
theorem Read_ok (L : List (List Nat × Ctl)) (hL : ∀ p ∈ L, PartOk p.1 p.2) (h1 : 1 ≤ L.length) (h8 : L.length ≤ 8) (v : Value) (n : Nat) (hn : n ≤ 1200) (w : World) (hv : SB w v n (restB L 0)) :
  Calls Try.prog 55 #[v] w fun e w' => ∃ so co, e = .returned (.tuple #[.slice so L.length co, .int .i64 0]) ∧ EQ EC 111 w' w.heap.size (.slice so L.length co) L.length (L.map Prod.snd) ∧ BW w w' := by
 have hmf : ∀ (fn : Fn) (first cap : Array Value) (w : World), (Instr.makeFunc fn first cap).run Try.prog w = .ok (.func fn first cap) w := fun _ _ _ _ => rfl
 obtain ⟨sa, cap, rfl, hcap, hm⟩ := hv.len
 unfold maxLen at hm
 generalize hNL : L.length = N at *
 have B1 : BW w (w.alloc (.cells #[.slice none 0 0] 95)) := (BW.refl w).alloc
 have B2 : BW (w.alloc (.cells #[.slice none 0 0] 95)) ((w.alloc (.cells #[.slice none 0 0] 95)).alloc (.cells #[.int .i64 0] 37)) := (BW.refl _).alloc
 have P2 := Lib.hid ((HpB.new w (.cells #[.slice none 0 0] 95)).bw B2)
 have Q2 := Lib.hid (show HpB _ (w.heap.size + 1) _ from hp_new (w.alloc (.cells #[.slice none 0 0] 95)) (.cells #[.int .i64 0] 37) (w.heap.size + 1) (by simp))
 have B3 := Lib.hid (B1.trans B2)
 clear B1 B2
 replace hv := Lib.hid hv
 replace hNL := Lib.hid hNL
 go_enter_defers Try.func55, Try.ntmps55
 go_upto_region 2 with (fail)
 generalize (w.alloc _).alloc _ = w2 at *
 clear hmf
 have hle : decide ((n : Int) ≤ 1200) = true := by simp; omega
 go_wp2_with fail
 refine Calls.mono (need_ok w2) ?_
 rintro e w' ⟨rfl, rfl⟩
 dsimp only
 go_upto_region 4 with (fail)
 have hlt2 := Q2.out.lt
 go_loopg [0, 4] (N + 1) (fun m' b l wx => ∃ (k m : Nat) (s0 : Option Addr) (c0 : Nat) (so : Option Addr) (co : Nat), m' = N + 1 - k ∧ k ≤ N ∧ b = .slice s0 m c0 ∧ l = .slice so k co ∧ m ≤ c0 ∧ c0 ≤ 9223372036854775807 ∧ co ≤ 9223372036854775807 ∧ Hid (SB w2 (.slice s0 m c0) m (restB L k)) ∧ Hid (EQ EC 111 wx w2.heap.size (.slice so k co) k ((L.take k).map Prod.snd)) ∧ Hid (BW w2 wx))
 case atStart => exact ⟨0, n, sa, cap, none, 0, by omega, by omega, rfl, rfl, by omega, by omega, by omega, hv.out.bw B3.out, EQ.nil _ _ _ _, BW.refl _⟩
 case round =>
  clear hv
  obtain ⟨k, m, s0, c0, so, co, rfl, hk, rfl, rfl, hmc, hc0, hco, V, Q, B⟩ := hrel
  by_cases hkN : k < N
  ·have hkL : k < L.length := by rw [hNL.out]; exact hkN
   have hP := hL _ (List.getElem_mem hkL)
   have hrs := restB_succ L k hkL
   have htk : (L.take (k + 1)).map Prod.snd = (L.take k).map Prod.snd ++ [(L[k]).2] := by
    rw [List.take_add_one, List.getElem?_eq_getElem hkL, List.map_append]; rfl
   obtain ⟨q, hq1, hq2, hq3⟩ := hP.num
   rw [hrs] at V
   have hml : m = 4 + 4 * q + (restB L (k + 1)).length := by have := V.out.1; rw [List.length_append, hq1] at this; omega
   generalize hpc : L[k] = pc at *
   obtain ⟨pb, c⟩ := pc
   dsimp only at *
   generalize hR1 : restB L (k + 1) = r1 at *
   generalize hR2 : r1.length = rl at *
   have cn := num_ok (.slice s0 m c0) m (pb ++ r1) 2 2 2 2 (by omega) (by omega) (by omega) rfl rfl wr (V.out.bw B.out)
   rw [hq3 r1] at cn
   have V4 := V.out.takeH (4 + 4 * q) (by omega)
   rw [List.take_left' hq1] at V4
   have V5 := V.out.cut (4 + 4 * q) m c0 (by omega) (Nat.le_refl _) hmc (Nat.le_refl _)
   rw [show ((pb ++ r1).drop (4 + 4 * q)).take (m - (4 + 4 * q)) = r1 from by rw [List.drop_left' hq1]; exact List.take_of_length_le (by omega)] at V5
   have cp := packet_ok pb c hP (.slice s0 (4 + 4 * q) c0) (4 + 4 * q) wr (V4.bw B.out)
   have hch := fun w => run_cut_h (P := Try.prog) Try.underlying36 info_u8 s0 m c0 (4 + 4 * q) (4 + 4 * (q : Int)) (by push_cast; rfl) .i64 (by omega) w
   have hcl := fun w => run_cut_l (P := Try.prog) Try.underlying36 info_u8 s0 m c0 (4 + 4 * q) (4 + 4 * (q : Int)) (by push_cast; rfl) .i64 (by omega) w
   have d3 : decide ((m : Int) < 4 + 4 * (q : Int)) = false := by simp; omega
   have d4 : decide ((k : Int) < 8) = true := by simp; omega
   have q2 : (q : Int) ≤ 65535 := by omega
   have k8 : k < 8 := by omega
   have hcap2 : m - (4 + 4 * q) ≤ c0 - (4 + 4 * q) := by omega
   generalize hm1 : m - (4 + 4 * q) = m1 at *
   generalize hc1 : c0 - (4 + 4 * q) = c1 at *
   have hc1b : c1 ≤ 9223372036854775807 := by omega
   have hm0 : 0 < m := by omega
   generalize cutA s0 (4 + 4 * q) c0 1 = s1 at *
   replace cn := Lib.hid cn
   replace V5 := Lib.hid V5
   replace cp := Lib.hid cp
   replace hm1 := Lib.hid hm1
   replace hc1 := Lib.hid hc1
   replace hrs := Lib.hid hrs
   replace htk := Lib.hid htk
   replace hP := Lib.hid hP
   replace hq1 := Lib.hid hq1
   replace hq2 := Lib.hid hq2
   replace hq3 := Lib.hid hq3
   replace hml := Lib.hid hml
   replace hpc := Lib.hid hpc
   replace hR1 := Lib.hid hR1
   replace hR2 := Lib.hid hR2
   replace h1 := Lib.hid h1
   replace h8 := Lib.hid h8
   clear V4
   by_cases hk0 : k = 0
   ·have d1 : ((k : Int) == 0) = true := by simp; omega
    clear hk0
    go_upto_region 5 with (fail)
    go_wp2_with fail
    refine Calls.mono cn.out ?_
    rintro e w' ⟨rfl, rfl⟩
    dsimp only
    go_upto_region 9 with (fail)
    go_wp2_with fail
    refine Calls.mono (need_ok wr) ?_
    rintro e w' ⟨rfl, rfl⟩
    dsimp only
    go_upto_region 10 with (fail)
    go_wp2_with fail
    refine Calls.mono cp.out ?_
    rintro e w4 ⟨vr, vn, vs, vl, vf, rfl, C4, hb⟩
    obtain ⟨sr, cr, rfl, _, _⟩ := C4.r.len
    obtain ⟨sn, cn2, rfl, _, _⟩ := C4.n.len
    obtain ⟨ss, cs, rfl, _, _⟩ := C4.s.len
    obtain ⟨sl, cl, rfl, _, _⟩ := C4.l.len
    obtain ⟨sf, cf, rfl, _, _⟩ := C4.f.len
    have B4 := Lib.hid (B.out.trans hb)
    have Q4 := Lib.hid (Q.out.bw hb)
    replace C4 := Lib.hid (C4.up B.out.size)
    clear hb cp cn
    unfold ctlC
    dsimp only
    generalize hnr : c.reps.length = nr at *
    generalize hnn : c.nams.length = nn at *
    generalize hns : c.srcs.length = ns at *
    generalize hnl : c.loss.length = nl at *
    generalize hnf : c.firs.length = nf at *
    have BE : BW w4 (w4.alloc (.cells #[.int .i64 c.k, .int .u32 (c.s : Nat), .int .u32 (c.m : Nat), .int .u64 (c.t : Nat), .int .u32 (c.st : Nat), .int .u32 (c.pk : Nat), .int .u32 (c.oc : Nat), .slice sr nr cr, .slice sn nn cn2, .slice ss ns cs, .slice sl nl cl, .slice sf nf cf, .int .u64 (c.rt : Nat)] 111)) := (BW.refl _).alloc
    have L5 := Lib.hid (Sls.new1 (E := EC) w4 111 [.int .i64 c.k, .int .u32 (c.s : Nat), .int .u32 (c.m : Nat), .int .u64 (c.t : Nat), .int .u32 (c.st : Nat), .int .u32 (c.pk : Nat), .int .u32 (c.oc : Nat), .slice sr nr cr, .slice sn nn cn2, .slice ss ns cs, .slice sl nl cl, .slice sf nf cf, .int .u64 (c.rt : Nat)] rfl)
    have B5 := Lib.hid (B4.out.trans BE)
    have Q5 := Lib.hid (Q4.out.bw BE)
    have R5 : Hid (EC.R (w4.alloc (.cells #[.int .i64 c.k, .int .u32 (c.s : Nat), .int .u32 (c.m : Nat), .int .u64 (c.t : Nat), .int .u32 (c.st : Nat), .int .u32 (c.pk : Nat), .int .u32 (c.oc : Nat), .slice sr nr cr, .slice sn nn cn2, .slice ss ns cs, .slice sl nl cl, .slice sf nf cf, .int .u64 (c.rt : Nat)] 111)) w2.heap.size c [.int .i64 c.k, .int .u32 (c.s : Nat), .int .u32 (c.m : Nat), .int .u64 (c.t : Nat), .int .u32 (c.st : Nat), .int .u32 (c.pk : Nat), .int .u32 (c.oc : Nat), .slice sr nr cr, .slice sn nn cn2, .slice ss ns cs, .slice sl nl cl, .slice sf nf cf, .int .u64 (c.rt : Nat)]) := by
     refine ⟨_, _, _, _, _, ?_, C4.out.bw BE⟩
     rw [← hnr, ← hnn, ← hns, ← hnl, ← hnf]
     rfl
    have hz5 := Lib.hid (B5.out.size)
    have hOk5 : Hid (∀ j ∈ (Value.slice so k co).ownBlock.toList, EC.Ok (w4.alloc (.cells #[.int .i64 c.k, .int .u32 (c.s : Nat), .int .u32 (c.m : Nat), .int .u64 (c.t : Nat), .int .u32 (c.st : Nat), .int .u32 (c.pk : Nat), .int .u32 (c.oc : Nat), .slice sr nr cr, .slice sn nn cn2, .slice ss ns cs, .slice sl nl cl, .slice sf nf cf, .int .u64 (c.rt : Nat)] 111)) j) := fun j hj => by
     obtain ⟨cs', h⟩ := Q5.out.row j (by simpa using hj)
     exact .inr ⟨_, _, _, h, by decide, by decide, by decide, by decide, by decide⟩
    clear B4 Q4 C4
    replace BE := Lib.hid BE
    replace hnr := Lib.hid hnr
    replace hnn := Lib.hid hnn
    replace hns := Lib.hid hns
    replace hnl := Lib.hid hnl
    replace hnf := Lib.hid hnf
    go_upto_region 11 with (at_builtin; go_must (refine wpList_apEQ slEC rfl _ _ rfl w2.heap.size (.slice so k co) k ((L.take k).map Prod.snd) rfl Q5.out _ rfl 1 [c] [.int .i64 c.k, .int .u32 (c.s : Nat), .int .u32 (c.m : Nat), .int .u64 (c.t : Nat), .int .u32 (c.st : Nat), .int .u32 (c.pk : Nat), .int .u32 (c.oc : Nat), .slice sr nr cr, .slice sn nn cn2, .slice ss ns cs, .slice sl nl cl, .slice sf nf cf, .int .u64 (c.rt : Nat)] L5.out (EL.single R5.out) rfl (by omega) hz5.out hOk5.out ?_; intro s6 c6 w6 hc6 hm6 Q6 T6 hb6 G6; unfold maxLen at hm6; replace Q6 := Lib.hid Q6; replace T6 := Lib.hid T6))
    have B6 := Lib.hid (B5.out.stP T6.out (fun j hj => Q5.out.ge' j (by simpa using hj)))
    clear B5 Q5 L5 R5 hz5 hOk5 hb6 G6 T6 BE
    go_wp2_with fail
    go_roundg (N + 1 - (k + 1))
    case measure => omega
    case rel => exact ⟨k + 1, m1, s1, c1, s6, c6, rfl, by omega, rfl, (by first | rfl | (congr 1; omega)), hcap2, hc1b, by omega, Lib.hid (by rw [hR1.out]; exact V5.out), Lib.hid (by rw [htk.out]; exact Q6.out), B6⟩
   ·have d1 : ((k : Int) == 0) = false := by simp; omega
    have d2 : decide (0 < (m : Int)) = true := by simpa using hm0
    go_upto_region 5 with (fail)
    go_wp2_with fail
    refine Calls.mono cn.out ?_
    rintro e w' ⟨rfl, rfl⟩
    dsimp only
    go_upto_region 9 with (fail)
    go_wp2_with fail
    refine Calls.mono (need_ok wr) ?_
    rintro e w' ⟨rfl, rfl⟩
    dsimp only
    go_upto_region 10 with (fail)
    go_wp2_with fail
    refine Calls.mono cp.out ?_
    rintro e w4 ⟨vr, vn, vs, vl, vf, rfl, C4, hb⟩
    obtain ⟨sr, cr, rfl, _, _⟩ := C4.r.len
    obtain ⟨sn, cn2, rfl, _, _⟩ := C4.n.len
    obtain ⟨ss, cs, rfl, _, _⟩ := C4.s.len
    obtain ⟨sl, cl, rfl, _, _⟩ := C4.l.len
    obtain ⟨sf, cf, rfl, _, _⟩ := C4.f.len
    have B4 := Lib.hid (B.out.trans hb)
    have Q4 := Lib.hid (Q.out.bw hb)
    replace C4 := Lib.hid (C4.up B.out.size)
    clear hb cp cn
    unfold ctlC
    dsimp only
    generalize hnr : c.reps.length = nr at *
    generalize hnn : c.nams.length = nn at *
    generalize hns : c.srcs.length = ns at *
    generalize hnl : c.loss.length = nl at *
    generalize hnf : c.firs.length = nf at *
    have BE : BW w4 (w4.alloc (.cells #[.int .i64 c.k, .int .u32 (c.s : Nat), .int .u32 (c.m : Nat), .int .u64 (c.t : Nat), .int .u32 (c.st : Nat), .int .u32 (c.pk : Nat), .int .u32 (c.oc : Nat), .slice sr nr cr, .slice sn nn cn2, .slice ss ns cs, .slice sl nl cl, .slice sf nf cf, .int .u64 (c.rt : Nat)] 111)) := (BW.refl _).alloc
    have L5 := Lib.hid (Sls.new1 (E := EC) w4 111 [.int .i64 c.k, .int .u32 (c.s : Nat), .int .u32 (c.m : Nat), .int .u64 (c.t : Nat), .int .u32 (c.st : Nat), .int .u32 (c.pk : Nat), .int .u32 (c.oc : Nat), .slice sr nr cr, .slice sn nn cn2, .slice ss ns cs, .slice sl nl cl, .slice sf nf cf, .int .u64 (c.rt : Nat)] rfl)
    have B5 := Lib.hid (B4.out.trans BE)
    have Q5 := Lib.hid (Q4.out.bw BE)
    have R5 : Hid (EC.R (w4.alloc (.cells #[.int .i64 c.k, .int .u32 (c.s : Nat), .int .u32 (c.m : Nat), .int .u64 (c.t : Nat), .int .u32 (c.st : Nat), .int .u32 (c.pk : Nat), .int .u32 (c.oc : Nat), .slice sr nr cr, .slice sn nn cn2, .slice ss ns cs, .slice sl nl cl, .slice sf nf cf, .int .u64 (c.rt : Nat)] 111)) w2.heap.size c [.int .i64 c.k, .int .u32 (c.s : Nat), .int .u32 (c.m : Nat), .int .u64 (c.t : Nat), .int .u32 (c.st : Nat), .int .u32 (c.pk : Nat), .int .u32 (c.oc : Nat), .slice sr nr cr, .slice sn nn cn2, .slice ss ns cs, .slice sl nl cl, .slice sf nf cf, .int .u64 (c.rt : Nat)]) := by
     refine ⟨_, _, _, _, _, ?_, C4.out.bw BE⟩
     rw [← hnr, ← hnn, ← hns, ← hnl, ← hnf]
     rfl
    have hz5 := Lib.hid (B5.out.size)
    have hOk5 : Hid (∀ j ∈ (Value.slice so k co).ownBlock.toList, EC.Ok (w4.alloc (.cells #[.int .i64 c.k, .int .u32 (c.s : Nat), .int .u32 (c.m : Nat), .int .u64 (c.t : Nat), .int .u32 (c.st : Nat), .int .u32 (c.pk : Nat), .int .u32 (c.oc : Nat), .slice sr nr cr, .slice sn nn cn2, .slice ss ns cs, .slice sl nl cl, .slice sf nf cf, .int .u64 (c.rt : Nat)] 111)) j) := fun j hj => by
     obtain ⟨cs', h⟩ := Q5.out.row j (by simpa using hj)
     exact .inr ⟨_, _, _, h, by decide, by decide, by decide, by decide, by decide⟩
    clear B4 Q4 C4
    replace BE := Lib.hid BE
    replace hnr := Lib.hid hnr
    replace hnn := Lib.hid hnn
    replace hns := Lib.hid hns
    replace hnl := Lib.hid hnl
    replace hnf := Lib.hid hnf
    go_upto_region 11 with (at_builtin; go_must (refine wpList_apEQ slEC rfl _ _ rfl w2.heap.size (.slice so k co) k ((L.take k).map Prod.snd) rfl Q5.out _ rfl 1 [c] [.int .i64 c.k, .int .u32 (c.s : Nat), .int .u32 (c.m : Nat), .int .u64 (c.t : Nat), .int .u32 (c.st : Nat), .int .u32 (c.pk : Nat), .int .u32 (c.oc : Nat), .slice sr nr cr, .slice sn nn cn2, .slice ss ns cs, .slice sl nl cl, .slice sf nf cf, .int .u64 (c.rt : Nat)] L5.out (EL.single R5.out) rfl (by omega) hz5.out hOk5.out ?_; intro s6 c6 w6 hc6 hm6 Q6 T6 hb6 G6; unfold maxLen at hm6; replace Q6 := Lib.hid Q6; replace T6 := Lib.hid T6))
    have B6 := Lib.hid (B5.out.stP T6.out (fun j hj => Q5.out.ge' j (by simpa using hj)))
    clear B5 Q5 L5 R5 hz5 hOk5 hb6 G6 T6 BE
    go_wp2_with fail
    go_roundg (N + 1 - (k + 1))
    case measure => omega
    case rel => exact ⟨k + 1, m1, s1, c1, s6, c6, rfl, by omega, rfl, (by first | rfl | (congr 1; omega)), hcap2, hc1b, by omega, Lib.hid (by rw [hR1.out]; exact V5.out), Lib.hid (by rw [htk.out]; exact Q6.out), B6⟩
  ·obtain rfl : k = N := by omega
   have hend : restB L k = [] := by rw [← hNL.out]; exact restB_end L
   have htk : (L.take k).map Prod.snd = L.map Prod.snd := by rw [← hNL.out, List.take_length]
   rw [hend] at V
   rw [htk] at Q
   obtain rfl : m = 0 := by have := V.out.1; simpa using this.symm
   have d1 : ((k : Int) == 0) = false := by simp; omega
   have P6 := Lib.hid (P2.out.bw B.out)
   have Q6 := Lib.hid (Q2.out.bw B.out)
   have B6 := Lib.hid (B3.out.trans B.out)
   have hlt6 := Nat.lt_of_lt_of_le hlt2 B.out.size
   replace hend := Lib.hid hend
   replace htk := Lib.hid htk
   clear V hkN
   have p0 := hp_cell P6.out 0
   have p1 := hp_frz P6.out 0
   have q0 := hp_cell Q6.out 0
   have q1 := hp_frz Q6.out 0
   simp only [List.getElem?_toArray, List.getElem?_cons_zero] at p0 q0
   have T1 := still_sc wr w.heap.size 0 (.slice so k co)
   have P7 : Hid (HpB (wr.setCell ⟨w.heap.size, 0, none⟩ (.slice so k co)) w.heap.size (.cells #[.slice so k co] 95)) := hp_set P6.out 0 _
   have Q7 := Lib.hid (Q6.out.st T1 (by simp))
   have E7 := Lib.hid (Q.out.old T1 (fun z hz => by obtain rfl : z = w.heap.size := (by simpa using hz); omega))
   have B7 := Lib.hid (B6.out.stP T1 (fun z hz => by obtain rfl : z = w.heap.size := (by simpa using hz); exact Nat.le_refl _))
   have T2 := still_sc (wr.setCell ⟨w.heap.size, 0, none⟩ (.slice so k co)) (w.heap.size + 1) 0 (.int .i64 0)
   have P8 := Lib.hid (P7.out.st T2 (by simp))
   have Q8 : Hid (HpB ((wr.setCell ⟨w.heap.size, 0, none⟩ (.slice so k co)).setCell ⟨w.heap.size + 1, 0, none⟩ (.int .i64 0)) (w.heap.size + 1) (.cells #[.int .i64 0] 37)) := hp_set Q7.out 0 _
   have E8 := Lib.hid (E7.out.old T2 (fun z hz => by obtain rfl : z = w.heap.size + 1 := (by simpa using hz); omega))
   have B8 := Lib.hid (B7.out.stP T2 (fun z hz => by obtain rfl : z = w.heap.size + 1 := (by simpa using hz); omega))
   clear P6 Q6 B6 P7 Q7 E7 B7 T1 T2 Q
   go_wp2_with fail
   generalize (wr.setCell ⟨w.heap.size, 0, none⟩ (.slice so k co)).setCell ⟨w.heap.size + 1, 0, none⟩ (.int .i64 0) = w9 at *
   refine leaves_cons (f := 89) (args := #[.pointer (some ⟨w.heap.size, 0, none⟩), .pointer (some ⟨w.heap.size + 1, 0, none⟩)]) (by simp) (by simp [go_sem]) ?_
   refine (rd_idle _ _ _).mono ?_
   rintro e u' w'' ⟨rfl, rfl, rfl⟩
   have z0 := hp_cell P8.out 0
   have z1 := hp_cell Q8.out 0
   simp only [List.getElem?_toArray, List.getElem?_cons_zero] at z0 z1
   refine ⟨.tuple #[.slice so k co, .int .i64 0], by simp [results, Try.results55, go_sem, z0, z1], so, co, rfl, E8.out.up (by omega), B8.out⟩
end Go.Proofs.Ytcempndfbckcaaa
