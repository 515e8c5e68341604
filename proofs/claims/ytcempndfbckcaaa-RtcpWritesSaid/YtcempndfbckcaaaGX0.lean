/- rtcp's writer: num, words, reports. No condition but the sizes'. rtcp's kinds: what a packet may have. No condition. Control packets with nothing but their sources: they may be. No condition. Control packets with nothing but their sources: may. No condition. Control packets with nothing but their sources: their bodies. No condition. -/
import Derived.Test.YtcempndfbckcaaaGW4
import Derived.Test.YtcempndfbckcaaaNum
import Derived.Test.YtcempndfbckcaaaMp2
namespace Go.Proofs.Ytcempndfbckcaaa
open Go.RowKit
def WrV (w : World) (g : Nat) (l : List Nat) : Prop := ∃ s c, HpB w g (.cells #[.slice s l.length c] 152) ∧ OB w 0 5 (.slice s l.length c) l.length l
theorem WrV.bw {w w' : World} {g : Nat} {l : List Nat} (h : WrV w g l) (b : BW w w') : WrV w' g l := by
 obtain ⟨s, c, h1, h2⟩ := h
 exact ⟨s, c, h1.bw b, h2.bw b⟩
theorem WrV.lt {w : World} {g : Nat} {l : List Nat} (h : WrV w g l) : g < w.heap.size := by
 obtain ⟨s, c, h1, _⟩ := h
 exact h1.lt
theorem WrV.new (w : World) : WrV (w.alloc (.cells #[.slice none 0 0] 152)) w.heap.size [] := ⟨none, 0, HpB.new w _, OB.nil _ _ _⟩
theorem stillR (w : World) (g o : Nat) (v : Value) : Still [g] w (w.setCell ⟨g, o, none⟩ v) :=
 ⟨rfl, rfl, rfl, by simp [World.setCell], fun k _ hk => hp_oth (by simpa using hk)⟩
def wordsB (xs : List Nat) : List Nat := (xs.map fun x => putB 4 x).flatten
theorem wordsB_snoc (xs : List Nat) (k : Nat) (h : k < xs.length) : wordsB (xs.take (k + 1)) = wordsB (xs.take k) ++ putB 4 (xs.getD k 0) := by
 unfold wordsB
 rw [List.take_succ_eq_append_getElem h, List.map_append, List.flatten_append, List.getD_eq_getElem?_getD, List.getElem?_eq_getElem h]
 simp
theorem wordsB_len (xs : List Nat) : (wordsB xs).length = 4 * xs.length := by
 induction xs with
 | nil => rfl
 | cons x xs ih => simp [wordsB, putB_len] at ih ⊢; omega
end Go.Proofs.Ytcempndfbckcaaa

namespace Go.Proofs.Ytcempndfbckcaaa
open Go.RowKit
abbrev shA (r n s l f : Int) (a b c d : Bool) : Value := .agg #[.int .i64 r, .int .i64 n, .int .i64 s, .int .i64 l, .int .i64 f, .bool a, .bool b, .bool c, .bool d]
def mostV (k : Int) : Value :=
 if k = 200 then shA 16 0 0 0 0 true false true false else if k = 201 then shA 16 0 0 0 0 true false false false else if k = 202 then shA 0 16 0 0 0 false false false false
 else if k = 203 then shA 0 0 16 0 0 false false false false else if k = 1 then shA 0 0 0 16 0 true true false false else if k = 2 then shA 0 0 0 0 0 true true false false
 else if k = 3 then shA 0 0 0 0 16 true false false false else if k = 4 then shA 0 0 16 0 0 true false false true else shA 0 0 0 0 0 false false false false
def isKind (k : Int) : Bool := decide (k = 200 ∨ k = 201 ∨ k = 202 ∨ k = 203 ∨ k = 1 ∨ k = 2 ∨ k = 3 ∨ k = 4)
def shS (l : List (Int × Value)) : List (Value × Value) := l.map fun p => (.int .i64 p.1, p.2)
theorem intLaw : Maps.Keyed Try.prog 3 := Maps.int_keyed Try.underlying3
theorem int_key (n : Int) (h : -9223372036854775808 ≤ n ∧ n ≤ 9223372036854775807) : keyOf Try.prog 3 (.int .i64 n) = some (.int .i64 n) :=
 Maps.keyOf_int_mk Try.underlying3 (by simp [Lit.wf, IntKind.min, IntKind.max, IntKind.signed, IntKind.bits]; omega)
theorem shS_keys {l : List (Int × Value)} (h : ∀ p ∈ l, 0 ≤ p.1 ∧ p.1 ≤ 255) : ∀ p ∈ shS l, ∃ k, keyOf Try.prog 3 p.1 = some k := fun p hp => by
 obtain ⟨q, hq, rfl⟩ := List.mem_map.1 hp
 have := h q hq
 exact ⟨_, int_key q.1 (by omega)⟩
theorem mput {w : World} {g : Nat} {l : List (Int × Value)} (h : MapIn w g (shS l)) (n : Int) (v : Value) (hl : ∀ p ∈ l, 0 ≤ p.1 ∧ p.1 ≤ 255) (hn : 0 ≤ n ∧ n ≤ 255) (hne : ∀ p ∈ l, p.1 ≠ n) :
  ∃ w', (Instr.mapUpdate 214 (.map (some g)) (.int .i64 n) v).run Try.prog w = .ok () w' ∧ MapIn w' g (shS (l ++ [(n, v)])) ∧ Still [g] w w' := by
 obtain ⟨w', h1, h2, h3⟩ := h.insert intLaw Try.underlying214 (shS_keys hl) (val := v) (int_key n (by omega)) (fun p hp e => by
  obtain ⟨q, hq, rfl⟩ := List.mem_map.1 hp
  simp only [Value.int.injEq, true_and] at e
  exact hne q hq e)
 refine ⟨w', h1, ?_, h3⟩
 unfold shS at h2 ⊢
 rw [List.map_append]
 exact h2
def mostL : List (Int × Value) := [(200, mostV 200), (201, mostV 201), (202, mostV 202), (203, mostV 203), (1, mostV 1), (2, mostV 2), (3, mostV 3), (4, mostV 4)]
theorem still_st9 (w : World) (z : Nat) (v0 v1 v2 v3 v4 v5 v6 v7 v8 : Value) : Still [z] w (((((((((w.setCell ⟨z, 0, none⟩ v0).setCell ⟨z, 1, none⟩ v1).setCell ⟨z, 2, none⟩ v2).setCell ⟨z, 3, none⟩ v3).setCell ⟨z, 4, none⟩ v4).setCell ⟨z, 5, none⟩ v5).setCell ⟨z, 6, none⟩ v6).setCell ⟨z, 7, none⟩ v7).setCell ⟨z, 8, none⟩ v8) := (((((((((still_sc w z 0 v0).trans (still_sc _ z 1 v1)).trans (still_sc _ z 2 v2)).trans (still_sc _ z 3 v3)).trans (still_sc _ z 4 v4)).trans (still_sc _ z 5 v5)).trans (still_sc _ z 6 v6)).trans (still_sc _ z 7 v7)).trans (still_sc _ z 8 v8))
theorem st9_arr (c : Array Value) (hc : c.size = 9) (v0 v1 v2 v3 v4 v5 v6 v7 v8 : Value) : (((((((((c.setIfInBounds 0 v0).setIfInBounds 1 v1).setIfInBounds 2 v2).setIfInBounds 3 v3).setIfInBounds 4 v4).setIfInBounds 5 v5).setIfInBounds 6 v6).setIfInBounds 7 v7).setIfInBounds 8 v8) = #[v0, v1, v2, v3, v4, v5, v6, v7, v8] := by
 obtain ⟨l⟩ := c
 match l, hc with
 | [_, _, _, _, _, _, _, _, _], _ => simp only [List.setIfInBounds_toArray, List.set_cons_zero, List.set_cons_succ]
theorem HpB.st9 {w : World} {z : Nat} {c : Array Value} {T : TypeId} (h : HpB w z (.cells c T)) (hc : c.size = 9) (v0 v1 v2 v3 v4 v5 v6 v7 v8 : Value) : HpB (((((((((w.setCell ⟨z, 0, none⟩ v0).setCell ⟨z, 1, none⟩ v1).setCell ⟨z, 2, none⟩ v2).setCell ⟨z, 3, none⟩ v3).setCell ⟨z, 4, none⟩ v4).setCell ⟨z, 5, none⟩ v5).setCell ⟨z, 6, none⟩ v6).setCell ⟨z, 7, none⟩ v7).setCell ⟨z, 8, none⟩ v8) z (.cells #[v0, v1, v2, v3, v4, v5, v6, v7, v8] T) := by
 have k := (hp_set (hp_set (hp_set (hp_set (hp_set (hp_set (hp_set (hp_set (hp_set h 0 v0) 1 v1) 2 v2) 3 v3) 4 v4) 5 v5) 6 v6) 7 v7) 8 v8)
 rw [st9_arr c hc] at k
 exact k
set_option maxRecDepth 100000 in
set_option maxHeartbeats 8000000 in
theorem most_ok (k : Int) (hk : -9223372036854775808 ≤ k ∧ k ≤ 9223372036854775807) (w : World) :
  Calls Try.prog 106 #[.int .i64 k] w fun e w' => e = .returned (.tuple #[mostV k, .bool (isKind k)]) ∧ BW w w' := by
 have BA : BW w (w.alloc (.cells #[.int .i64 0, .int .i64 0, .int .i64 0, .int .i64 0, .int .i64 0, .bool false, .bool false, .bool false, .bool false] 179)) := (BW.refl w).alloc
 have Z := Lib.hid (HpB.new w (.cells #[.int .i64 0, .int .i64 0, .int .i64 0, .int .i64 0, .int .i64 0, .bool false, .bool false, .bool false, .bool false] 179))
 have B0 := Lib.hid BA
 replace BA := Lib.hid BA
 go_enter Try.func106, Try.ntmps106
 go_upto_region 1 with (fail)
 generalize (w.alloc _) = w0 at *
 clear BA
 generalize hg0 : w.heap.size = g0 at *
 obtain ⟨w1, g, r0, m0, b1, hg⟩ : ∃ w1 g, (Instr.makeMap 214 none).run Try.prog w0 = .ok (.map (some g)) w1 ∧ MapIn w1 g (shS []) ∧ BW w0 w1 ∧ g = w0.heap.size := ⟨_, _, rfl, MapIn.made w0, (BW.refl w0).alloc, rfl⟩
 obtain ⟨w2, r1, m1, t1⟩ := mput m0 200 (mostV 200) (by simp) (by omega) (by simp)
 obtain ⟨w3, r2, m2, t2⟩ := mput m1 201 (mostV 201) (by simp) (by omega) (by simp)
 obtain ⟨w4, r3, m3, t3⟩ := mput m2 202 (mostV 202) (by simp) (by omega) (by simp)
 obtain ⟨w5, r4, m4, t4⟩ := mput m3 203 (mostV 203) (by simp) (by omega) (by simp)
 obtain ⟨w6, r5, m5, t5⟩ := mput m4 1 (mostV 1) (by simp) (by omega) (by simp)
 obtain ⟨w7, r6, m6, t6⟩ := mput m5 2 (mostV 2) (by simp) (by omega) (by simp)
 obtain ⟨w8, r7, m7, t7⟩ := mput m6 3 (mostV 3) (by simp) (by omega) (by simp)
 obtain ⟨w9, r8, m8, t8⟩ := mput m7 4 (mostV 4) (by simp) (by omega) (by simp)
 have hT := ((((((t1.trans t2).trans t3).trans t4).trans t5).trans t6).trans t7).trans t8
 have B9 := Lib.hid ((B0.out.trans b1).stP hT (fun j hj => by obtain rfl : j = g := (by simpa using hj); have := B0.out.size; omega))
 have Z9 := Lib.hid ((Z.out.bw b1).st hT (by have := Z.out.lt; simp; omega))
 have hlk : (Instr.lookup 214 (.map (some g)) (.int .i64 k) true).run Try.prog w9 = .ok (.tuple #[mostV k, .bool (isKind k)]) w9 := by
  have hz : (zeroValue 179).run Try.prog w9 = .ok (shA 0 0 0 0 0 false false false false) w9 := by kernel_rfl
  have hm : MapIn w9 g (shS mostL) := m8
  rcases hm.look intLaw Try.underlying214 (shS_keys (by unfold mostL; simp)) hz (int_key k hk) with ⟨v, h1, h2⟩ | ⟨h1, h2⟩
  ·rw [h2 true, if_pos rfl]
   obtain ⟨q, hq, he⟩ := List.mem_map.1 h1
   simp only [Prod.mk.injEq, Value.int.injEq, true_and] at he
   obtain ⟨rfl, rfl⟩ := he
   simp only [mostL, List.mem_cons, List.not_mem_nil, or_false] at hq
   rcases hq with rfl | rfl | rfl | rfl | rfl | rfl | rfl | rfl <;> rfl
  ·rw [h2 true, if_pos rfl]
   have hn : ∀ p ∈ mostL, p.1 ≠ k := fun p hp e => h1 (.int .i64 p.1, p.2) (List.mem_map.2 ⟨p, hp, rfl⟩) (by rw [e])
   have e1 : isKind k = false := by
    unfold isKind
    rw [decide_eq_false]
    rintro (h | h | h | h | h | h | h | h) <;> exact hn (k, mostV k) (by rw [h]; simp [mostL]) rfl
   have e2 : mostV k = shA 0 0 0 0 0 false false false false := by
    have := of_decide_eq_false e1
    unfold mostV
    repeat (rw [if_neg (by omega)])
   rw [e1, e2]
 have hsh : ∃ r n s l f a b c d, mostV k = shA r n s l f a b c d := by
  unfold mostV
  repeat (first | exact ⟨_, _, _, _, _, _, _, _, _, rfl⟩ | split)
 clear m0 m1 m2 m3 m4 m5 m6 m7 m8 t1 t2 t3 t4 t5 t6 t7 t8 hT b1 hk hg
 obtain ⟨r, n, s, l, f, a, b, c, d, hsh⟩ := hsh
 have e1 := Lib.hid hsh
 rw [hsh] at hlk
 generalize hik : isKind k = ik at hlk
 replace hik := Lib.hid hik
 replace hg0 := Lib.hid hg0
 clear hsh
 simp only [mostV, shA] at r1 r2 r3 r4 r5 r6 r7 r8
 simp only [if_true, if_false, Int.reduceEq] at r1 r2 r3 r4 r5 r6 r7 r8
 have BC : BW w9 (w9.alloc (.cells #[.int .i64 r, .int .i64 n, .int .i64 s, .int .i64 l, .int .i64 f, .bool a, .bool b, .bool c, .bool d] 179)) := (BW.refl _).alloc
 have Y := Lib.hid (HpB.new w9 (.cells #[.int .i64 r, .int .i64 n, .int .i64 s, .int .i64 l, .int .i64 f, .bool a, .bool b, .bool c, .bool d] 179))
 have ZC := Lib.hid (Z9.out.bw BC)
 have BD := Lib.hid (B9.out.trans BC)
 replace BC := Lib.hid BC
 go_upto_region 2 with (fail)
 clear r0 r1 r2 r3 r4 r5 r6 r7 r8 hlk BC Z9 B9 Z B0
 generalize (w9.alloc _) = wa at *
 generalize w9.heap.size = g9 at *
 have z0 := hp_cell (ZC.out) 0
 have y0 := hp_frz (ZC.out) 0
 have z1 := hp_cell (ZC.out) 1
 have y1 := hp_frz (ZC.out) 1
 have z2 := hp_cell (ZC.out) 2
 have y2 := hp_frz (ZC.out) 2
 have z3 := hp_cell (ZC.out) 3
 have y3 := hp_frz (ZC.out) 3
 have z4 := hp_cell (ZC.out) 4
 have y4 := hp_frz (ZC.out) 4
 have z5 := hp_cell (ZC.out) 5
 have y5 := hp_frz (ZC.out) 5
 have z6 := hp_cell (ZC.out) 6
 have y6 := hp_frz (ZC.out) 6
 have z7 := hp_cell (ZC.out) 7
 have y7 := hp_frz (ZC.out) 7
 have z8 := hp_cell (ZC.out) 8
 have y8 := hp_frz (ZC.out) 8
 simp only [List.getElem?_toArray, List.getElem?_cons_zero, List.getElem?_cons_succ] at z0 z1 z2 z3 z4 z5 z6 z7 z8
 have k0 := hp_cell (Y.out) 0
 have k1 := hp_cell (Y.out) 1
 have k2 := hp_cell (Y.out) 2
 have k3 := hp_cell (Y.out) 3
 have k4 := hp_cell (Y.out) 4
 have k5 := hp_cell (Y.out) 5
 have k6 := hp_cell (Y.out) 6
 have k7 := hp_cell (Y.out) 7
 have k8 := hp_cell (Y.out) 8
 simp only [List.getElem?_toArray, List.getElem?_cons_zero, List.getElem?_cons_succ] at k0 k1 k2 k3 k4 k5 k6 k7 k8
 go_wp2_with fail
 clear z0 z1 z2 z3 z4 z5 z6 z7 z8 y0 y1 y2 y3 y4 y5 y6 y7 y8 k0 k1 k2 k3 k4 k5 k6 k7 k8
 have TS := still_st9 wa g0 (.int .i64 r) (.int .i64 n) (.int .i64 s) (.int .i64 l) (.int .i64 f) (.bool a) (.bool b) (.bool c) (.bool d)
 have Z4 := ZC.out.st9 rfl (.int .i64 r) (.int .i64 n) (.int .i64 s) (.int .i64 l) (.int .i64 f) (.bool a) (.bool b) (.bool c) (.bool d)
 have BF := Lib.hid (BD.out.stP TS (fun j hj => by obtain rfl : j = g0 := (by simpa using hj); exact Nat.le_of_eq hg0.out))
 have z0 := hp_cell (Z4) 0
 have z1 := hp_cell (Z4) 1
 have z2 := hp_cell (Z4) 2
 have z3 := hp_cell (Z4) 3
 have z4 := hp_cell (Z4) 4
 have z5 := hp_cell (Z4) 5
 have z6 := hp_cell (Z4) 6
 have z7 := hp_cell (Z4) 7
 have z8 := hp_cell (Z4) 8
 simp only [List.getElem?_toArray, List.getElem?_cons_zero, List.getElem?_cons_succ] at z0 z1 z2 z3 z4 z5 z6 z7 z8
 replace Z4 := Lib.hid Z4
 replace TS := Lib.hid TS
 refine bodyPost_ret (v := .tuple #[shA r n s l f a b c d, .bool ik]) ?_ rfl ⟨by rw [e1.out, hik.out], BF.out⟩
 simp [results, Try.results106, go_sem, z0, z1, z2, z3, z4, z5, z6, z7, z8]
end Go.Proofs.Ytcempndfbckcaaa

namespace Go.Proofs.Ytcempndfbckcaaa
open Go.RowKit
end Go.Proofs.Ytcempndfbckcaaa

namespace Go.Proofs.Ytcempndfbckcaaa
open Go.RowKit
end Go.Proofs.Ytcempndfbckcaaa

namespace Go.Proofs.Ytcempndfbckcaaa
open Go.RowKit
theorem EL_srcs (w : World) (base : Nat) : ∀ xs : List Nat, EL ES w base xs (xs.map fun (x : Nat) => Value.int .u32 (x : Nat))
 | [] => rfl
 | x :: xs => ⟨[.int .u32 (x : Nat)], xs.map fun (x : Nat) => Value.int .u32 (x : Nat), rfl, rfl, EL_srcs w base xs⟩
theorem SQ_srcs (w : World) (base : Nat) (xs : List Nat) (c : Array Value) (hc : c.toList = xs.map fun (x : Nat) => Value.int .u32 (x : Nat)) (n : Nat) (hn : xs.length = n) (h0 : 0 < n) (h1 : n ≤ 1000) : SQ ES (w.alloc (.cells c 73)) base (.slice (some ⟨w.heap.size, 0, none⟩) n n) n xs := by
 have hE : ES.size = 1 := rfl
 refine ⟨hn, xs.map fun (x : Nat) => Value.int .u32 (x : Nat), ⟨by rw [List.length_map, hE]; omega, by unfold maxLen; omega, .inr ⟨w.heap.size, 0, n, rfl, Nat.le_refl _, by unfold maxLen; omega, by simp, fun j hj => ?_⟩⟩, EL_srcs _ _ _⟩
 rw [Nat.zero_add, hp_cell (hp_new w _ _ rfl) j, ← Array.getElem?_toList, hc]
end Go.Proofs.Ytcempndfbckcaaa
