/- rtcp's writer: num, words, reports. No condition but the sizes'. rtcp's kinds: what a packet may have. No condition. Control packets with nothing but their sources: they may be. No condition. Control packets with nothing but their sources: may. No condition. Control packets with nothing but their sources: their bodies. No condition. rtcp.Write of one packet with nothing but its sources. No condition. The reference's Same and Sames of a control packet with nothing but its sources. No condition. The reference's Sames of two lists of one small packet. No condition. -/
import Derived.Test.YtikmhlbpefednaaGW4
import Derived.Test.YtikmhlbpefednaaGW6
import Derived.Test.YtikmhlbpefednaaGW7
import Derived.Test.YtikmhlbpefednaaGAr
namespace Go.Proofs.Ytikmhlbpefednaa
open Go.RowKit

/-- A writer: what it has written. -/
def WrV (w : World) (g : Nat) (l : List Nat) : Prop := ∃ s c, HpB w g (.cells #[.slice s l.length c] 130) ∧ OB w 0 5 (.slice s l.length c) l.length l
theorem WrV.bw {w w' : World} {g : Nat} {l : List Nat} (h : WrV w g l) (b : BW w w') : WrV w' g l := by
  obtain ⟨s, c, h1, h2⟩ := h
  exact ⟨s, c, h1.bw b, h2.bw b⟩
theorem WrV.lt {w : World} {g : Nat} {l : List Nat} (h : WrV w g l) : g < w.heap.size := by
  obtain ⟨s, c, h1, _⟩ := h
  exact h1.lt
theorem WrV.new (w : World) : WrV (w.alloc (.cells #[.slice none 0 0] 130)) w.heap.size [] := ⟨none, 0, HpB.new w _, OB.nil _ _ _⟩
theorem stillR (w : World) (g o : Nat) (v : Value) : Still [g] w (w.setCell ⟨g, o, none⟩ v) :=
  ⟨rfl, rfl, rfl, by simp [World.setCell], fun k _ hk => hp_oth (by simpa using hk)⟩
set_option maxRecDepth 100000 in
set_option maxHeartbeats 8000000 in
theorem wnum_ok (g : Nat) (l : List Nat) (n x : Nat) (b : Int) (hn1 : 1 ≤ n) (hn8 : n ≤ 8) (hb : b = n) (hx : x < 18446744073709551616) (hl : l.length ≤ 1000000) (w : World) (h : WrV w g l) :
    Calls Try.prog 94 #[.pointer (some ⟨g, 0, none⟩), .int .i64 b, .int .u64 (x : Nat)] w fun e w' => e = .returned (.tuple #[]) ∧ WrV w' g (l ++ putB n x) ∧ Still [g] w w' := by
  subst hb
  obtain ⟨s, c, h1, h2⟩ := h
  have z0 := (hp_cell h1 0).trans (show _ = some (.slice s l.length c) from rfl)
  have cP := Lib.hid (put_ok (.slice s l.length c) l.length l n x n hn1 hn8 rfl hx (by omega) w h2.sb)
  have hlen : (l ++ putB n x).length = l.length + n := by rw [List.length_append, putB_len]
  have H1 := Lib.hid h1
  clear h1 h2
  generalize l ++ putB n x = m at *
  clear hx
  replace hlen := Lib.hid hlen
  go_enter Try.func94, Try.ntmps94
  go_wp2_with fail
  refine Calls.mono cP.out ?_
  rintro e w1 ⟨v, rfl, O, hb⟩
  obtain ⟨s1, c1, rfl, h2, hm⟩ := O.len
  replace hb : BW w w1 := BW.of hb
  have H2 := H1.out.bw hb
  have H3 := hp_set H2 0 (.slice s1 (l.length + n) c1)
  have T3 := stillR w1 g 0 (.slice s1 (l.length + n) c1)
  have O3 := O.still T3 (fun k hk hm => O.2.2.ne H2 (by decide) k hk (by simpa using hm))
  have S3 := Lib.hid ((hb.still [g]).trans T3)
  have z1 := (hp_cell H2 0).trans (show _ = some (.slice s l.length c) from rfl)
  have f1 := hp_frz H2 0
  replace H3 := Lib.hid H3
  replace O3 := Lib.hid O3
  clear hb H2 T3 O cP z0 h2 hm hl hn1 hn8
  dsimp only
  go_wp2_with fail
  go_end0
  refine ⟨rfl, ⟨s1, c1, ?_, ?_⟩, S3.out⟩
  · rw [hlen.out]; exact H3.out
  · rw [hlen.out]; exact O3.out.up (Nat.zero_le _)
def wordsB (xs : List Nat) : List Nat := (xs.map fun x => putB 4 x).flatten
theorem wordsB_snoc (xs : List Nat) (k : Nat) (h : k < xs.length) : wordsB (xs.take (k + 1)) = wordsB (xs.take k) ++ putB 4 (xs.getD k 0) := by
  unfold wordsB
  rw [List.take_succ_eq_append_getElem h, List.map_append, List.flatten_append, List.getD_eq_getElem?_getD, List.getElem?_eq_getElem h]
  simp
theorem wordsB_len (xs : List Nat) : (wordsB xs).length = 4 * xs.length := by
  induction xs with
  | nil => rfl
  | cons x xs ih => simp [wordsB, putB_len] at ih ⊢; omega
set_option maxRecDepth 100000 in
set_option maxHeartbeats 8000000 in
theorem wwords_ok (g : Nat) (l : List Nat) (v : Value) (n : Nat) (xs : List Nat) (base : Nat) (hxs : ∀ x ∈ xs, x < 4294967296) (hn : n ≤ 1000) (hl : l.length ≤ 100000) (w : World) (h : WrV w g l) (hv : SQ ES w base v n xs) (hvo : ∀ k, v.ownBlock = some k → k ≠ g) :
    Calls Try.prog 93 #[.pointer (some ⟨g, 0, none⟩), v] w fun e w' => e = .returned (.tuple #[]) ∧ WrV w' g (l ++ wordsB xs) ∧ Still [g] w w' := by
  obtain ⟨s, c, rfl, hc, hm⟩ := hv.len
  unfold maxLen at hm
  have hxl := hv.1
  have hfull : wordsB (xs.take n) = wordsB xs := by rw [← hxl, List.take_length]
  have hst := fun k (h : k < n) => wordsB_snoc xs k (by omega)
  have hln := fun k => wordsB_len (xs.take k)
  have hV := Lib.hid hv
  have hW := Lib.hid h
  clear h hv
  replace hfull := Lib.hid hfull
  replace hst := Lib.hid hst
  replace hln := Lib.hid hln
  replace hxl := Lib.hid hxl
  replace hxs := Lib.hid hxs
  replace hvo := Lib.hid hvo
  go_enter Try.func93, Try.ntmps93
  go_upto_region 1 with (fail)
  go_loopg [8] n (fun m' a wx => ∃ k : Nat, m' = n - k ∧ k ≤ n ∧ a = .int .i64 (k : Nat) ∧ Hid (WrV wx g (l ++ wordsB (xs.take k)) ∧ Still [g] w wx))
  case atStart => exact ⟨0, rfl, by omega, rfl, by show _ ∧ _; exact ⟨by simpa [wordsB] using hW.out, Still.refl _ _⟩⟩
  case round =>
    obtain ⟨k, rfl, hk, rfl, hp⟩ := hrel
    by_cases hkn : k < n
    · have d : decide ((k : Int) < (n : Int)) = true := by simp; omega
      have hVr := hV.out.still hp.out.2 (fun _ _ => trivial) (fun j hj hm => hvo.out j hj (by simpa using hm))
      obtain ⟨b, o, cap, he, hb, _, _, hcc⟩ := hVr.form (by omega)
      cases he
      obtain ⟨cs, hcs, hce⟩ := hcc k (by rw [hxl.out]; exact hkn)
      have hcs' : cs = [.int .u32 (xs[k]'(by rw [hxl.out]; exact hkn) : Nat)] := hcs
      have y0 := hce 0 (by decide)
      have hE : ES.size = 1 := rfl
      rw [hcs', hE, Nat.mul_one] at y0
      replace y0 : wr.cell? ⟨b, o + k, none⟩ = some (.int .u32 (xs[k]'(by rw [hxl.out]; exact hkn) : Nat)) := y0
      have hx4 := hxs.out (xs[k]'(by rw [hxl.out]; exact hkn)) (List.getElem_mem _)
      have hs1 := hst.out k hkn
      rw [List.getD_eq_getElem?_getD, List.getElem?_eq_getElem (by rw [hxl.out]; exact hkn), Option.getD_some] at hs1
      have cN := Lib.hid (wnum_ok g (l ++ wordsB (xs.take k)) 4 (xs[k]'(by rw [hxl.out]; exact hkn)) 4 (by decide) (by decide) rfl (by omega) (by rw [List.length_append, hln.out, List.length_take]; have := hl; omega) wr hp.out.1)
      rw [List.append_assoc, ← hs1] at cN
      have hx5 : ((xs[k]'(by rw [hxl.out]; exact hkn) : Nat) : Int) ≤ 4294967295 := by omega
      clear hcs hcs' hce hcc hs1 hVr
      generalize (xs[k]'(by rw [hxl.out]; exact hkn)) = x at *
      have hp2 := Lib.hid hp.out.2
      clear hp hx4
      replace hst := Lib.hid hst
      go_wp2_with fail
      refine Calls.mono cN.out ?_
      rintro e w2 ⟨rfl, W2, T2⟩
      have hp3 : Hid (WrV w2 g (l ++ wordsB (xs.take (k + 1))) ∧ Still [g] w w2) := ⟨W2, hp2.out.trans T2⟩
      clear W2 T2 hp2 cN y0 hx5
      dsimp only
      go_wp2_with fail
      go_roundg (n - (k + 1))
      case measure => omega
      case rel => exact ⟨k + 1, rfl, by omega, by push_cast; rfl, hp3⟩
    · obtain rfl : k = n := by omega
      have d : decide ((k : Int) < (k : Int)) = false := by simp
      have hp3 := hp.out
      rw [hfull.out] at hp3
      replace hp3 := Lib.hid hp3
      clear hp
      go_wp2_with fail
      go_end0
      exact ⟨rfl, hp3.out.1, hp3.out.2⟩
end Go.Proofs.Ytikmhlbpefednaa

namespace Go.Proofs.Ytikmhlbpefednaa
open Go.RowKit

/-- What a kind shows: how many of each list; source, media, sender, rate. -/
abbrev shA (r n s l f : Int) (a b c d : Bool) : Value := .agg #[.int .i64 r, .int .i64 n, .int .i64 s, .int .i64 l, .int .i64 f, .bool a, .bool b, .bool c, .bool d]
def mostV (k : Int) : Value :=
  if k = 200 then shA 16 0 0 0 0 true false true false else if k = 201 then shA 16 0 0 0 0 true false false false else if k = 202 then shA 0 16 0 0 0 false false false false
  else if k = 203 then shA 0 0 16 0 0 false false false false else if k = 1 then shA 0 0 0 16 0 true true false false else if k = 2 then shA 0 0 0 0 0 true true false false
  else if k = 3 then shA 0 0 0 0 16 true false false false else if k = 4 then shA 0 0 16 0 0 true false false true else shA 0 0 0 0 0 false false false false
def isKind (k : Int) : Bool := decide (k = 200 ∨ k = 201 ∨ k = 202 ∨ k = 203 ∨ k = 1 ∨ k = 2 ∨ k = 3 ∨ k = 4)
def shS (l : List (Int × Value)) : List (Value × Value) := l.map fun p => (.int .i64 p.1, p.2)
theorem intLaw : Maps.Keyed Try.prog 3 := Maps.int_keyed Try.underlying3
theorem int_key (n : Int) (h : -9223372036854775808 ≤ n ∧ n ≤ 9223372036854775807) : keyOf Try.prog 3 (.int .i64 n) = some (.int .i64 n) :=
  Maps.keyOf_int_mk Try.underlying3 (by simp [Lit.wf, IntKind.min, IntKind.max, IntKind.signed, IntKind.bits]; omega)
theorem shS_keys {l : List (Int × Value)} (h : ∀ p ∈ l, 0 ≤ p.1 ∧ p.1 ≤ 255) : ∀ p ∈ shS l, ∃ k, keyOf Try.prog 3 p.1 = some k := fun p hp => by
  obtain ⟨q, hq, rfl⟩ := List.mem_map.1 hp
  have := h q hq
  exact ⟨_, int_key q.1 (by omega)⟩
theorem mput {w : World} {g : Nat} {l : List (Int × Value)} (h : MapIn w g (shS l)) (n : Int) (v : Value) (hl : ∀ p ∈ l, 0 ≤ p.1 ∧ p.1 ≤ 255) (hn : 0 ≤ n ∧ n ≤ 255) (hne : ∀ p ∈ l, p.1 ≠ n) :
    ∃ w', (Instr.mapUpdate 205 (.map (some g)) (.int .i64 n) v).run Try.prog w = .ok () w' ∧ MapIn w' g (shS (l ++ [(n, v)])) ∧ Still [g] w w' := by
  obtain ⟨w', h1, h2, h3⟩ := h.insert intLaw Try.underlying205 (shS_keys hl) (val := v) (int_key n (by omega)) (fun p hp e => by
    obtain ⟨q, hq, rfl⟩ := List.mem_map.1 hp
    simp only [Value.int.injEq, true_and] at e
    exact hne q hq e)
  refine ⟨w', h1, ?_, h3⟩
  unfold shS at h2 ⊢
  rw [List.map_append]
  exact h2
def mostL : List (Int × Value) := [(200, mostV 200), (201, mostV 201), (202, mostV 202), (203, mostV 203), (1, mostV 1), (2, mostV 2), (3, mostV 3), (4, mostV 4)]
theorem still_st9 (w : World) (z : Nat) (v0 v1 v2 v3 v4 v5 v6 v7 v8 : Value) : Still [z] w (((((((((w.setCell ⟨z, 0, none⟩ v0).setCell ⟨z, 1, none⟩ v1).setCell ⟨z, 2, none⟩ v2).setCell ⟨z, 3, none⟩ v3).setCell ⟨z, 4, none⟩ v4).setCell ⟨z, 5, none⟩ v5).setCell ⟨z, 6, none⟩ v6).setCell ⟨z, 7, none⟩ v7).setCell ⟨z, 8, none⟩ v8) := (((((((((still_sc w z 0 v0).trans (still_sc _ z 1 v1)).trans (still_sc _ z 2 v2)).trans (still_sc _ z 3 v3)).trans (still_sc _ z 4 v4)).trans (still_sc _ z 5 v5)).trans (still_sc _ z 6 v6)).trans (still_sc _ z 7 v7)).trans (still_sc _ z 8 v8))
theorem st9_arr (c : Array Value) (hc : c.size = 9) (v0 v1 v2 v3 v4 v5 v6 v7 v8 : Value) : (((((((((c.setIfInBounds 0 v0).setIfInBounds 1 v1).setIfInBounds 2 v2).setIfInBounds 3 v3).setIfInBounds 4 v4).setIfInBounds 5 v5).setIfInBounds 6 v6).setIfInBounds 7 v7).setIfInBounds 8 v8) = #[v0, v1, v2, v3, v4, v5, v6, v7, v8] := by
  obtain ⟨l⟩ := c
  match l, hc with
  | [_, _, _, _, _, _, _, _, _], _ => simp only [List.setIfInBounds_toArray, List.set_cons_zero, List.set_cons_succ]
theorem HpB.st9 {w : World} {z : Nat} {c : Array Value} {T : TypeId} (h : HpB w z (.cells c T)) (hc : c.size = 9) (v0 v1 v2 v3 v4 v5 v6 v7 v8 : Value) : HpB (((((((((w.setCell ⟨z, 0, none⟩ v0).setCell ⟨z, 1, none⟩ v1).setCell ⟨z, 2, none⟩ v2).setCell ⟨z, 3, none⟩ v3).setCell ⟨z, 4, none⟩ v4).setCell ⟨z, 5, none⟩ v5).setCell ⟨z, 6, none⟩ v6).setCell ⟨z, 7, none⟩ v7).setCell ⟨z, 8, none⟩ v8) z (.cells #[v0, v1, v2, v3, v4, v5, v6, v7, v8] T) := by
  have k := (hp_set (hp_set (hp_set (hp_set (hp_set (hp_set (hp_set (hp_set (hp_set h 0 v0) 1 v1) 2 v2) 3 v3) 4 v4) 5 v5) 6 v6) 7 v7) 8 v8)
  rw [st9_arr c hc] at k
  exact k
set_option maxRecDepth 100000 in
set_option maxHeartbeats 8000000 in
theorem most_ok (k : Int) (hk : -9223372036854775808 ≤ k ∧ k ≤ 9223372036854775807) (w : World) :
    Calls Try.prog 85 #[.int .i64 k] w fun e w' => e = .returned (.tuple #[mostV k, .bool (isKind k)]) ∧ BW w w' := by
  have BA : BW w (w.alloc (.cells #[.int .i64 0, .int .i64 0, .int .i64 0, .int .i64 0, .int .i64 0, .bool false, .bool false, .bool false, .bool false] 164)) := (BW.refl w).alloc
  have Z := Lib.hid (HpB.new w (.cells #[.int .i64 0, .int .i64 0, .int .i64 0, .int .i64 0, .int .i64 0, .bool false, .bool false, .bool false, .bool false] 164))
  have B0 := Lib.hid BA
  replace BA := Lib.hid BA
  go_enter Try.func85, Try.ntmps85
  go_upto_region 1 with (fail)
  generalize (w.alloc _) = w0 at *
  clear BA
  generalize hg0 : w.heap.size = g0 at *
  obtain ⟨w1, g, r0, m0, b1, hg⟩ : ∃ w1 g, (Instr.makeMap 205 none).run Try.prog w0 = .ok (.map (some g)) w1 ∧ MapIn w1 g (shS []) ∧ BW w0 w1 ∧ g = w0.heap.size := ⟨_, _, rfl, MapIn.made w0, (BW.refl w0).alloc, rfl⟩
  obtain ⟨w2, r1, m1, t1⟩ := mput m0 200 (mostV 200) (by simp) (by omega) (by simp)
  obtain ⟨w3, r2, m2, t2⟩ := mput m1 201 (mostV 201) (by simp) (by omega) (by simp)
  obtain ⟨w4, r3, m3, t3⟩ := mput m2 202 (mostV 202) (by simp) (by omega) (by simp)
  obtain ⟨w5, r4, m4, t4⟩ := mput m3 203 (mostV 203) (by simp) (by omega) (by simp)
  obtain ⟨w6, r5, m5, t5⟩ := mput m4 1 (mostV 1) (by simp) (by omega) (by simp)
  obtain ⟨w7, r6, m6, t6⟩ := mput m5 2 (mostV 2) (by simp) (by omega) (by simp)
  obtain ⟨w8, r7, m7, t7⟩ := mput m6 3 (mostV 3) (by simp) (by omega) (by simp)
  obtain ⟨w9, r8, m8, t8⟩ := mput m7 4 (mostV 4) (by simp) (by omega) (by simp)
  have hT := ((((((t1.trans t2).trans t3).trans t4).trans t5).trans t6).trans t7).trans t8
  have B9 := Lib.hid ((B0.out.trans b1).stP hT (fun j hj => by obtain rfl : j = g := (by simpa using hj); have := B0.out.size; omega))
  have Z9 := Lib.hid ((Z.out.bw b1).st hT (by have := Z.out.lt; simp; omega))
  have hlk : (Instr.lookup 205 (.map (some g)) (.int .i64 k) true).run Try.prog w9 = .ok (.tuple #[mostV k, .bool (isKind k)]) w9 := by
    have hz : (zeroValue 164).run Try.prog w9 = .ok (shA 0 0 0 0 0 false false false false) w9 := by kernel_rfl
    have hm : MapIn w9 g (shS mostL) := m8
    rcases hm.look intLaw Try.underlying205 (shS_keys (by unfold mostL; simp)) hz (int_key k hk) with ⟨v, h1, h2⟩ | ⟨h1, h2⟩
    · rw [h2 true, if_pos rfl]
      obtain ⟨q, hq, he⟩ := List.mem_map.1 h1
      simp only [Prod.mk.injEq, Value.int.injEq, true_and] at he
      obtain ⟨rfl, rfl⟩ := he
      simp only [mostL, List.mem_cons, List.not_mem_nil, or_false] at hq
      rcases hq with rfl | rfl | rfl | rfl | rfl | rfl | rfl | rfl <;> rfl
    · rw [h2 true, if_pos rfl]
      have hn : ∀ p ∈ mostL, p.1 ≠ k := fun p hp e => h1 (.int .i64 p.1, p.2) (List.mem_map.2 ⟨p, hp, rfl⟩) (by rw [e])
      have e1 : isKind k = false := by
        unfold isKind
        rw [decide_eq_false]
        rintro (h | h | h | h | h | h | h | h) <;> exact hn (k, mostV k) (by rw [h]; simp [mostL]) rfl
      have e2 : mostV k = shA 0 0 0 0 0 false false false false := by
        have := of_decide_eq_false e1
        unfold mostV
        repeat (rw [if_neg (by omega)])
      rw [e1, e2]
  have hsh : ∃ r n s l f a b c d, mostV k = shA r n s l f a b c d := by
    unfold mostV
    repeat (first | exact ⟨_, _, _, _, _, _, _, _, _, rfl⟩ | split)
  clear m0 m1 m2 m3 m4 m5 m6 m7 m8 t1 t2 t3 t4 t5 t6 t7 t8 hT b1 hk hg
  obtain ⟨r, n, s, l, f, a, b, c, d, hsh⟩ := hsh
  have e1 := Lib.hid hsh
  rw [hsh] at hlk
  generalize hik : isKind k = ik at hlk
  replace hik := Lib.hid hik
  replace hg0 := Lib.hid hg0
  clear hsh
  simp only [mostV, shA] at r1 r2 r3 r4 r5 r6 r7 r8
  simp only [if_true, if_false, Int.reduceEq] at r1 r2 r3 r4 r5 r6 r7 r8
  have BC : BW w9 (w9.alloc (.cells #[.int .i64 r, .int .i64 n, .int .i64 s, .int .i64 l, .int .i64 f, .bool a, .bool b, .bool c, .bool d] 164)) := (BW.refl _).alloc
  have Y := Lib.hid (HpB.new w9 (.cells #[.int .i64 r, .int .i64 n, .int .i64 s, .int .i64 l, .int .i64 f, .bool a, .bool b, .bool c, .bool d] 164))
  have ZC := Lib.hid (Z9.out.bw BC)
  have BD := Lib.hid (B9.out.trans BC)
  replace BC := Lib.hid BC
  go_upto_region 2 with (fail)
  clear r0 r1 r2 r3 r4 r5 r6 r7 r8 hlk BC Z9 B9 Z B0
  generalize (w9.alloc _) = wa at *
  generalize w9.heap.size = g9 at *
  have z0 := hp_cell (ZC.out) 0
  have y0 := hp_frz (ZC.out) 0
  have z1 := hp_cell (ZC.out) 1
  have y1 := hp_frz (ZC.out) 1
  have z2 := hp_cell (ZC.out) 2
  have y2 := hp_frz (ZC.out) 2
  have z3 := hp_cell (ZC.out) 3
  have y3 := hp_frz (ZC.out) 3
  have z4 := hp_cell (ZC.out) 4
  have y4 := hp_frz (ZC.out) 4
  have z5 := hp_cell (ZC.out) 5
  have y5 := hp_frz (ZC.out) 5
  have z6 := hp_cell (ZC.out) 6
  have y6 := hp_frz (ZC.out) 6
  have z7 := hp_cell (ZC.out) 7
  have y7 := hp_frz (ZC.out) 7
  have z8 := hp_cell (ZC.out) 8
  have y8 := hp_frz (ZC.out) 8
  simp only [List.getElem?_toArray, List.getElem?_cons_zero, List.getElem?_cons_succ] at z0 z1 z2 z3 z4 z5 z6 z7 z8
  have k0 := hp_cell (Y.out) 0
  have k1 := hp_cell (Y.out) 1
  have k2 := hp_cell (Y.out) 2
  have k3 := hp_cell (Y.out) 3
  have k4 := hp_cell (Y.out) 4
  have k5 := hp_cell (Y.out) 5
  have k6 := hp_cell (Y.out) 6
  have k7 := hp_cell (Y.out) 7
  have k8 := hp_cell (Y.out) 8
  simp only [List.getElem?_toArray, List.getElem?_cons_zero, List.getElem?_cons_succ] at k0 k1 k2 k3 k4 k5 k6 k7 k8
  go_wp2_with fail
  clear z0 z1 z2 z3 z4 z5 z6 z7 z8 y0 y1 y2 y3 y4 y5 y6 y7 y8 k0 k1 k2 k3 k4 k5 k6 k7 k8
  have TS := still_st9 wa g0 (.int .i64 r) (.int .i64 n) (.int .i64 s) (.int .i64 l) (.int .i64 f) (.bool a) (.bool b) (.bool c) (.bool d)
  have Z4 := ZC.out.st9 rfl (.int .i64 r) (.int .i64 n) (.int .i64 s) (.int .i64 l) (.int .i64 f) (.bool a) (.bool b) (.bool c) (.bool d)
  have BF := Lib.hid (BD.out.stP TS (fun j hj => by obtain rfl : j = g0 := (by simpa using hj); exact Nat.le_of_eq hg0.out))
  have z0 := hp_cell (Z4) 0
  have z1 := hp_cell (Z4) 1
  have z2 := hp_cell (Z4) 2
  have z3 := hp_cell (Z4) 3
  have z4 := hp_cell (Z4) 4
  have z5 := hp_cell (Z4) 5
  have z6 := hp_cell (Z4) 6
  have z7 := hp_cell (Z4) 7
  have z8 := hp_cell (Z4) 8
  simp only [List.getElem?_toArray, List.getElem?_cons_zero, List.getElem?_cons_succ] at z0 z1 z2 z3 z4 z5 z6 z7 z8
  replace Z4 := Lib.hid Z4
  replace TS := Lib.hid TS
  refine bodyPost_ret (v := .tuple #[shA r n s l f a b c d, .bool ik]) ?_ rfl ⟨by rw [e1.out, hik.out], BF.out⟩
  simp [results, Try.results85, go_sem, z0, z1, z2, z3, z4, z5, z6, z7, z8]
end Go.Proofs.Ytikmhlbpefednaa

namespace Go.Proofs.Ytikmhlbpefednaa
open Go.RowKit

abbrev smC (k : Int) (s m : Nat) : Array Value := #[.int .i64 k, .int .u32 (s : Nat), .int .u32 (m : Nat), .int .u64 0, .int .u32 0, .int .u32 0, .int .u32 0, .slice none 0 0, .slice none 0 0, .slice none 0 0, .slice none 0 0, .slice none 0 0, .int .u64 0]
set_option maxRecDepth 100000 in
set_option maxHeartbeats 8000000 in
theorem within_rr (s : Nat) (hs : s < 4294967296) (w : World) :
    Calls Try.prog 86 #[.agg (smC 201 s 0), shA 16 0 0 0 0 true false false false] w fun e w' => e = .returned (.bool true) ∧ BW w w' := by
  have BA : BW w ((w.alloc (.cells (smC 201 s 0) 69)).alloc (.cells #[.int .i64 16, .int .i64 0, .int .i64 0, .int .i64 0, .int .i64 0, .bool true, .bool false, .bool false, .bool false] 164)) := ((BW.refl w).alloc).alloc
  have B := Lib.hid BA
  replace BA := Lib.hid BA
  go_enter Try.func86, Try.ntmps86
  go_wp2_with fail
  go_ret
  exact ⟨rfl, B.out⟩
set_option maxRecDepth 100000 in
set_option maxHeartbeats 8000000 in
theorem within_pli (s m : Nat) (hs : s < 4294967296) (w : World) :
    Calls Try.prog 86 #[.agg (smC 2 s m), shA 0 0 0 0 0 true true false false] w fun e w' => e = .returned (.bool true) ∧ BW w w' := by
  have BA : BW w ((w.alloc (.cells (smC 2 s m) 69)).alloc (.cells #[.int .i64 0, .int .i64 0, .int .i64 0, .int .i64 0, .int .i64 0, .bool true, .bool true, .bool false, .bool false] 164)) := ((BW.refl w).alloc).alloc
  have B := Lib.hid BA
  replace BA := Lib.hid BA
  go_enter Try.func86, Try.ntmps86
  go_wp2_with fail
  go_ret
  exact ⟨rfl, B.out⟩
end Go.Proofs.Ytikmhlbpefednaa

namespace Go.Proofs.Ytikmhlbpefednaa
open Go.RowKit

set_option maxRecDepth 100000 in
set_option maxHeartbeats 8000000 in
theorem len64_0 (w : World) : Calls Try.prog 113 #[.int .u64 0] w fun e w' => e = .returned (.int .i64 0) ∧ w = w' := by
  go_enter Try.func113, Try.ntmps113
  go_wp2_with fail
  go_ret
  exact ⟨by kernel_rfl, rfl⟩
set_option maxRecDepth 100000 in
set_option maxHeartbeats 8000000 in
theorem rate_0 (w : World) : Calls Try.prog 92 #[.int .u64 0] w fun e w' => e = .returned (.tuple #[.int .u64 0, .int .i64 0]) ∧ w = w' := by
  have c := Lib.hid (len64_0 w)
  go_enter Try.func92, Try.ntmps92
  go_wp2_with fail
  refine Calls.mono c.out ?_
  rintro e w' ⟨rfl, rfl⟩
  dsimp only
  go_wp2_with fail
  go_ret2
  exact ⟨rfl, rfl⟩
set_option maxRecDepth 100000 in
set_option maxHeartbeats 8000000 in
theorem idx0_nam (f : Value) (w : World) : Calls Try.prog 111 #[.slice none 0 0, f] w fun e w' => e = .returned (.int .i64 (-1)) ∧ w = w' := by
  go_enter Try.func111, Try.ntmps111
  go_upto_region 2 with (fail)
  go_loopg [8] 0 (fun m' a wx => m' = 0 ∧ a = .int .i64 0 ∧ wx = w)
  case atStart => exact ⟨rfl, rfl, rfl⟩
  case round =>
    obtain ⟨rfl, rfl, rfl⟩ := hrel
    go_wp2_with fail
    go_ret
    exact ⟨rfl, rfl⟩
set_option maxRecDepth 100000 in
set_option maxHeartbeats 8000000 in
theorem has0_nam (f : Value) (w : World) : Calls Try.prog 87 #[.slice none 0 0, f] w fun e w' => e = .returned (.bool false) ∧ w = w' := by
  have c := Lib.hid (idx0_nam f w)
  go_enter Try.func87, Try.ntmps87
  go_wp2_with fail
  refine Calls.mono c.out ?_
  rintro e w' ⟨rfl, rfl⟩
  dsimp only
  go_wp2_with fail
  go_ret
  exact ⟨rfl, rfl⟩
set_option maxRecDepth 100000 in
set_option maxHeartbeats 8000000 in
theorem idx0_rep (f : Value) (w : World) : Calls Try.prog 112 #[.slice none 0 0, f] w fun e w' => e = .returned (.int .i64 (-1)) ∧ w = w' := by
  go_enter Try.func112, Try.ntmps112
  go_upto_region 2 with (fail)
  go_loopg [8] 0 (fun m' a wx => m' = 0 ∧ a = .int .i64 0 ∧ wx = w)
  case atStart => exact ⟨rfl, rfl, rfl⟩
  case round =>
    obtain ⟨rfl, rfl, rfl⟩ := hrel
    go_wp2_with fail
    go_ret
    exact ⟨rfl, rfl⟩
set_option maxRecDepth 100000 in
set_option maxHeartbeats 8000000 in
theorem has0_rep (f : Value) (w : World) : Calls Try.prog 90 #[.slice none 0 0, f] w fun e w' => e = .returned (.bool false) ∧ w = w' := by
  have c := Lib.hid (idx0_rep f w)
  go_enter Try.func90, Try.ntmps90
  go_wp2_with fail
  refine Calls.mono c.out ?_
  rintro e w' ⟨rfl, rfl⟩
  dsimp only
  go_wp2_with fail
  go_ret
  exact ⟨rfl, rfl⟩
set_option maxRecDepth 100000 in
set_option maxHeartbeats 8000000 in
theorem may_rr (s : Nat) (hs : s < 4294967296) (w : World) :
    Calls Try.prog 67 #[.agg (smC 201 s 0)] w fun e w' => e = .returned (.bool true) ∧ BW w w' := by
  have BA : BW w (w.alloc (.cells (smC 201 s 0) 69)) := (BW.refl w).alloc
  have P := Lib.hid (HpB.new w (.cells (smC 201 s 0) 69))
  have B := Lib.hid BA
  have cM := fun wz => Lib.hid (most_ok 201 (by omega) wz)
  rw [show mostV 201 = shA 16 0 0 0 0 true false false false from rfl, show isKind 201 = true from rfl] at cM
  have cW := fun wz => Lib.hid (within_rr s hs wz)
  have cN := fun f wz => Lib.hid (has0_nam f wz)
  have cR := fun f wz => Lib.hid (has0_rep f wz)
  have c0 := fun wz => Lib.hid (rate_0 wz)
  replace BA := Lib.hid BA
  go_enter Try.func67, Try.ntmps67
  go_upto_region 1 with (fail)
  generalize (w.alloc _) = w1 at *
  generalize w.heap.size = g at *
  clear BA
  have z0 := hp_cell (P.out) 0
  have z1 := hp_cell (P.out) 1
  have z2 := hp_cell (P.out) 2
  have z3 := hp_cell (P.out) 3
  have z4 := hp_cell (P.out) 4
  have z5 := hp_cell (P.out) 5
  have z6 := hp_cell (P.out) 6
  have z7 := hp_cell (P.out) 7
  have z8 := hp_cell (P.out) 8
  have z9 := hp_cell (P.out) 9
  have z10 := hp_cell (P.out) 10
  have z11 := hp_cell (P.out) 11
  have z12 := hp_cell (P.out) 12
  simp only [List.getElem?_toArray, List.getElem?_cons_zero, List.getElem?_cons_succ] at z0 z1 z2 z3 z4 z5 z6 z7 z8 z9 z10 z11 z12
  go_wp2_with fail
  refine Calls.mono (cM w1).out ?_
  rintro e w2 ⟨rfl, hb⟩
  replace P := Lib.hid (P.out.bw hb)
  replace B := Lib.hid (B.out.trans hb)
  clear hb cM
  clear z0 z1 z2 z3 z4 z5 z6 z7 z8 z9 z10 z11 z12
  dsimp only
  have BS : BW w2 (w2.alloc (.cells #[.int .i64 16, .int .i64 0, .int .i64 0, .int .i64 0, .int .i64 0, .bool true, .bool false, .bool false, .bool false] 164)) := (BW.refl _).alloc
  have Y := Lib.hid (HpB.new w2 (.cells #[.int .i64 16, .int .i64 0, .int .i64 0, .int .i64 0, .int .i64 0, .bool true, .bool false, .bool false, .bool false] 164))
  replace P := Lib.hid (P.out.bw BS)
  replace B := Lib.hid (B.out.trans BS)
  replace BS := Lib.hid BS
  go_upto_region 2 with (fail)
  generalize (w2.alloc _) = w3 at *
  generalize w2.heap.size = gy at *
  clear BS
  have z0 := hp_cell (P.out) 0
  have z1 := hp_cell (P.out) 1
  have z2 := hp_cell (P.out) 2
  have z3 := hp_cell (P.out) 3
  have z4 := hp_cell (P.out) 4
  have z5 := hp_cell (P.out) 5
  have z6 := hp_cell (P.out) 6
  have z7 := hp_cell (P.out) 7
  have z8 := hp_cell (P.out) 8
  have z9 := hp_cell (P.out) 9
  have z10 := hp_cell (P.out) 10
  have z11 := hp_cell (P.out) 11
  have z12 := hp_cell (P.out) 12
  simp only [List.getElem?_toArray, List.getElem?_cons_zero, List.getElem?_cons_succ] at z0 z1 z2 z3 z4 z5 z6 z7 z8 z9 z10 z11 z12
  have k0 := hp_cell (Y.out) 0
  have k1 := hp_cell (Y.out) 1
  have k2 := hp_cell (Y.out) 2
  have k3 := hp_cell (Y.out) 3
  have k4 := hp_cell (Y.out) 4
  have k5 := hp_cell (Y.out) 5
  have k6 := hp_cell (Y.out) 6
  have k7 := hp_cell (Y.out) 7
  have k8 := hp_cell (Y.out) 8
  simp only [List.getElem?_toArray, List.getElem?_cons_zero, List.getElem?_cons_succ] at k0 k1 k2 k3 k4 k5 k6 k7 k8
  go_wp2_with fail
  refine Calls.mono (cW w3).out ?_
  rintro e w4 ⟨rfl, hb⟩
  replace P := Lib.hid (P.out.bw hb)
  replace B := Lib.hid (B.out.trans hb)
  clear hb cW Y
  clear z0 z1 z2 z3 z4 z5 z6 z7 z8 z9 z10 z11 z12
  clear k0 k1 k2 k3 k4 k5 k6 k7 k8
  dsimp only
  have z0 := hp_cell (P.out) 0
  have z1 := hp_cell (P.out) 1
  have z2 := hp_cell (P.out) 2
  have z3 := hp_cell (P.out) 3
  have z4 := hp_cell (P.out) 4
  have z5 := hp_cell (P.out) 5
  have z6 := hp_cell (P.out) 6
  have z7 := hp_cell (P.out) 7
  have z8 := hp_cell (P.out) 8
  have z9 := hp_cell (P.out) 9
  have z10 := hp_cell (P.out) 10
  have z11 := hp_cell (P.out) 11
  have z12 := hp_cell (P.out) 12
  simp only [List.getElem?_toArray, List.getElem?_cons_zero, List.getElem?_cons_succ] at z0 z1 z2 z3 z4 z5 z6 z7 z8 z9 z10 z11 z12
  go_wp2_with fail
  refine Calls.mono (cN _ w4).out ?_
  rintro e w' ⟨rfl, rfl⟩
  dsimp only
  clear cN
  go_wp2_with fail
  refine Calls.mono (cR _ w4).out ?_
  rintro e w' ⟨rfl, rfl⟩
  dsimp only
  clear cR
  go_wp2_with fail
  refine Calls.mono (c0 w4).out ?_
  rintro e w' ⟨rfl, rfl⟩
  dsimp only
  clear c0
  go_upto_region 9 with (fail)
  clear z0 z1 z2 z3 z4 z5 z6 z7 z8 z9 z10 z11 z12
  have l12 : ∀ y : LaterS [] w4, y.now.cell? ⟨g, 12, none⟩ = some (.int .u64 0) := fun y => (hp_cell (P.out.bw y.bw) 12).trans rfl
  refine wp_region_gg [] [] [] (by kernel_rfl) ?_
  refine hoist [] [] (a1 := ?_) 0 rfl (by kernel_rfl) (.inl ⟨rfl, rfl⟩) rfl rfl rfl (fun x K hK => ?_) ?_
  rotate_left
  · go_big_quiet_op
    exact hK
  refine hoist [] [] (a1 := ?_) 1 rfl (by kernel_rfl) (.inl ⟨rfl, rfl⟩) rfl rfl rfl (fun x K hK => ?_) ?_
  rotate_left
  · go_big_quiet_op
    exact hK
  refine hoist [] [] (a1 := ?_) 2 rfl (by kernel_rfl) (.inl ⟨rfl, rfl⟩) rfl rfl rfl (fun x K hK => ?_) ?_
  rotate_left
  · go_big_quiet_op
    exact hK
  refine hoist [] [] (a1 := ?_) 3 rfl (by kernel_rfl) (.inl ⟨rfl, rfl⟩) rfl rfl rfl (fun x K hK => ?_) ?_
  rotate_left
  · go_big_quiet_op
    exact hK
  refine hoist [] [] (a1 := ?_) 4 rfl (by kernel_rfl) (.inl ⟨rfl, rfl⟩) rfl rfl rfl (fun x K hK => ?_) ?_
  rotate_left
  · go_big_quiet_op
    exact hK
  refine hoist [] [] (a1 := ?_) 5 rfl (by kernel_rfl) (.inl ⟨rfl, rfl⟩) rfl rfl rfl (fun x K hK => ?_) ?_
  rotate_left
  · go_big_quiet_op
    exact hK
  refine hoist [] [] (a1 := ?_) 6 rfl (by kernel_rfl) (.inl ⟨rfl, rfl⟩) rfl rfl rfl (fun x K hK => ?_) ?_
  rotate_left
  · go_big_quiet_op
    exact hK
  refine hoist [] [] (a1 := ?_) 7 rfl (by kernel_rfl) (.inl ⟨rfl, rfl⟩) rfl rfl rfl (fun x K hK => ?_) ?_
  rotate_left
  · go_big_quiet_op
    exact hK
  refine hoist [] [] (a1 := ?_) 8 rfl (by kernel_rfl) (.inl ⟨rfl, rfl⟩) rfl rfl rfl (fun x K hK => ?_) ?_
  rotate_left
  · go_big_quiet_op
    exact hK
  refine hoist [] [] (a1 := ?_) 9 rfl (by kernel_rfl) (.inl ⟨rfl, rfl⟩) rfl rfl rfl (fun x K hK => ?_) ?_
  rotate_left
  · go_big_quiet_op
    exact hK
  refine hoist [] [] (a1 := ?_) 10 rfl (by kernel_rfl) (.inl ⟨rfl, rfl⟩) rfl rfl rfl (fun x K hK => ?_) ?_
  rotate_left
  · go_big_quiet_op
    exact hK
  refine hoist [] [] (a1 := ?_) 11 rfl (by kernel_rfl) (.inl ⟨rfl, rfl⟩) rfl rfl rfl (fun x K hK => ?_) ?_
  rotate_left
  · go_big_quiet_op
    exact hK
  refine hoist [] [] (a1 := ?_) 12 rfl (by kernel_rfl) (.inl ⟨rfl, rfl⟩) rfl rfl rfl (fun x K hK => ?_) ?_
  rotate_left
  · go_big_quiet_op
    exact hK
  refine done (by kernel_rfl) (fun xr => ?_)
  have BF := Lib.hid (B.out.trans xr.bw)
  clear l12 B P
  go_wp2_with fail
  go_ret
  exact ⟨rfl, BF.out⟩
set_option maxRecDepth 100000 in
set_option maxHeartbeats 8000000 in
theorem may_pli (s m : Nat) (hs : s < 4294967296) (w : World) :
    Calls Try.prog 67 #[.agg (smC 2 s m)] w fun e w' => e = .returned (.bool true) ∧ BW w w' := by
  have BA : BW w (w.alloc (.cells (smC 2 s m) 69)) := (BW.refl w).alloc
  have P := Lib.hid (HpB.new w (.cells (smC 2 s m) 69))
  have B := Lib.hid BA
  have cM := fun wz => Lib.hid (most_ok 2 (by omega) wz)
  rw [show mostV 2 = shA 0 0 0 0 0 true true false false from rfl, show isKind 2 = true from rfl] at cM
  have cW := fun wz => Lib.hid (within_pli s m hs wz)
  have cN := fun f wz => Lib.hid (has0_nam f wz)
  have cR := fun f wz => Lib.hid (has0_rep f wz)
  have c0 := fun wz => Lib.hid (rate_0 wz)
  replace BA := Lib.hid BA
  go_enter Try.func67, Try.ntmps67
  go_upto_region 1 with (fail)
  generalize (w.alloc _) = w1 at *
  generalize w.heap.size = g at *
  clear BA
  have z0 := hp_cell (P.out) 0
  have z1 := hp_cell (P.out) 1
  have z2 := hp_cell (P.out) 2
  have z3 := hp_cell (P.out) 3
  have z4 := hp_cell (P.out) 4
  have z5 := hp_cell (P.out) 5
  have z6 := hp_cell (P.out) 6
  have z7 := hp_cell (P.out) 7
  have z8 := hp_cell (P.out) 8
  have z9 := hp_cell (P.out) 9
  have z10 := hp_cell (P.out) 10
  have z11 := hp_cell (P.out) 11
  have z12 := hp_cell (P.out) 12
  simp only [List.getElem?_toArray, List.getElem?_cons_zero, List.getElem?_cons_succ] at z0 z1 z2 z3 z4 z5 z6 z7 z8 z9 z10 z11 z12
  go_wp2_with fail
  refine Calls.mono (cM w1).out ?_
  rintro e w2 ⟨rfl, hb⟩
  replace P := Lib.hid (P.out.bw hb)
  replace B := Lib.hid (B.out.trans hb)
  clear hb cM
  clear z0 z1 z2 z3 z4 z5 z6 z7 z8 z9 z10 z11 z12
  dsimp only
  have BS : BW w2 (w2.alloc (.cells #[.int .i64 0, .int .i64 0, .int .i64 0, .int .i64 0, .int .i64 0, .bool true, .bool true, .bool false, .bool false] 164)) := (BW.refl _).alloc
  have Y := Lib.hid (HpB.new w2 (.cells #[.int .i64 0, .int .i64 0, .int .i64 0, .int .i64 0, .int .i64 0, .bool true, .bool true, .bool false, .bool false] 164))
  replace P := Lib.hid (P.out.bw BS)
  replace B := Lib.hid (B.out.trans BS)
  replace BS := Lib.hid BS
  go_upto_region 2 with (fail)
  generalize (w2.alloc _) = w3 at *
  generalize w2.heap.size = gy at *
  clear BS
  have z0 := hp_cell (P.out) 0
  have z1 := hp_cell (P.out) 1
  have z2 := hp_cell (P.out) 2
  have z3 := hp_cell (P.out) 3
  have z4 := hp_cell (P.out) 4
  have z5 := hp_cell (P.out) 5
  have z6 := hp_cell (P.out) 6
  have z7 := hp_cell (P.out) 7
  have z8 := hp_cell (P.out) 8
  have z9 := hp_cell (P.out) 9
  have z10 := hp_cell (P.out) 10
  have z11 := hp_cell (P.out) 11
  have z12 := hp_cell (P.out) 12
  simp only [List.getElem?_toArray, List.getElem?_cons_zero, List.getElem?_cons_succ] at z0 z1 z2 z3 z4 z5 z6 z7 z8 z9 z10 z11 z12
  have k0 := hp_cell (Y.out) 0
  have k1 := hp_cell (Y.out) 1
  have k2 := hp_cell (Y.out) 2
  have k3 := hp_cell (Y.out) 3
  have k4 := hp_cell (Y.out) 4
  have k5 := hp_cell (Y.out) 5
  have k6 := hp_cell (Y.out) 6
  have k7 := hp_cell (Y.out) 7
  have k8 := hp_cell (Y.out) 8
  simp only [List.getElem?_toArray, List.getElem?_cons_zero, List.getElem?_cons_succ] at k0 k1 k2 k3 k4 k5 k6 k7 k8
  go_wp2_with fail
  refine Calls.mono (cW w3).out ?_
  rintro e w4 ⟨rfl, hb⟩
  replace P := Lib.hid (P.out.bw hb)
  replace B := Lib.hid (B.out.trans hb)
  clear hb cW Y
  clear z0 z1 z2 z3 z4 z5 z6 z7 z8 z9 z10 z11 z12
  clear k0 k1 k2 k3 k4 k5 k6 k7 k8
  dsimp only
  have z0 := hp_cell (P.out) 0
  have z1 := hp_cell (P.out) 1
  have z2 := hp_cell (P.out) 2
  have z3 := hp_cell (P.out) 3
  have z4 := hp_cell (P.out) 4
  have z5 := hp_cell (P.out) 5
  have z6 := hp_cell (P.out) 6
  have z7 := hp_cell (P.out) 7
  have z8 := hp_cell (P.out) 8
  have z9 := hp_cell (P.out) 9
  have z10 := hp_cell (P.out) 10
  have z11 := hp_cell (P.out) 11
  have z12 := hp_cell (P.out) 12
  simp only [List.getElem?_toArray, List.getElem?_cons_zero, List.getElem?_cons_succ] at z0 z1 z2 z3 z4 z5 z6 z7 z8 z9 z10 z11 z12
  go_wp2_with fail
  refine Calls.mono (cN _ w4).out ?_
  rintro e w' ⟨rfl, rfl⟩
  dsimp only
  clear cN
  go_wp2_with fail
  refine Calls.mono (cR _ w4).out ?_
  rintro e w' ⟨rfl, rfl⟩
  dsimp only
  clear cR
  go_wp2_with fail
  refine Calls.mono (c0 w4).out ?_
  rintro e w' ⟨rfl, rfl⟩
  dsimp only
  clear c0
  go_upto_region 9 with (fail)
  clear z0 z1 z2 z3 z4 z5 z6 z7 z8 z9 z10 z11 z12
  have l12 : ∀ y : LaterS [] w4, y.now.cell? ⟨g, 12, none⟩ = some (.int .u64 0) := fun y => (hp_cell (P.out.bw y.bw) 12).trans rfl
  refine wp_region_gg [] [] [] (by kernel_rfl) ?_
  refine hoist [] [] (a1 := ?_) 0 rfl (by kernel_rfl) (.inl ⟨rfl, rfl⟩) rfl rfl rfl (fun x K hK => ?_) ?_
  rotate_left
  · go_big_quiet_op
    exact hK
  refine hoist [] [] (a1 := ?_) 1 rfl (by kernel_rfl) (.inl ⟨rfl, rfl⟩) rfl rfl rfl (fun x K hK => ?_) ?_
  rotate_left
  · go_big_quiet_op
    exact hK
  refine hoist [] [] (a1 := ?_) 2 rfl (by kernel_rfl) (.inl ⟨rfl, rfl⟩) rfl rfl rfl (fun x K hK => ?_) ?_
  rotate_left
  · go_big_quiet_op
    exact hK
  refine hoist [] [] (a1 := ?_) 3 rfl (by kernel_rfl) (.inl ⟨rfl, rfl⟩) rfl rfl rfl (fun x K hK => ?_) ?_
  rotate_left
  · go_big_quiet_op
    exact hK
  refine hoist [] [] (a1 := ?_) 4 rfl (by kernel_rfl) (.inl ⟨rfl, rfl⟩) rfl rfl rfl (fun x K hK => ?_) ?_
  rotate_left
  · go_big_quiet_op
    exact hK
  refine hoist [] [] (a1 := ?_) 5 rfl (by kernel_rfl) (.inl ⟨rfl, rfl⟩) rfl rfl rfl (fun x K hK => ?_) ?_
  rotate_left
  · go_big_quiet_op
    exact hK
  refine hoist [] [] (a1 := ?_) 6 rfl (by kernel_rfl) (.inl ⟨rfl, rfl⟩) rfl rfl rfl (fun x K hK => ?_) ?_
  rotate_left
  · go_big_quiet_op
    exact hK
  refine hoist [] [] (a1 := ?_) 7 rfl (by kernel_rfl) (.inl ⟨rfl, rfl⟩) rfl rfl rfl (fun x K hK => ?_) ?_
  rotate_left
  · go_big_quiet_op
    exact hK
  refine hoist [] [] (a1 := ?_) 8 rfl (by kernel_rfl) (.inl ⟨rfl, rfl⟩) rfl rfl rfl (fun x K hK => ?_) ?_
  rotate_left
  · go_big_quiet_op
    exact hK
  refine hoist [] [] (a1 := ?_) 9 rfl (by kernel_rfl) (.inl ⟨rfl, rfl⟩) rfl rfl rfl (fun x K hK => ?_) ?_
  rotate_left
  · go_big_quiet_op
    exact hK
  refine hoist [] [] (a1 := ?_) 10 rfl (by kernel_rfl) (.inl ⟨rfl, rfl⟩) rfl rfl rfl (fun x K hK => ?_) ?_
  rotate_left
  · go_big_quiet_op
    exact hK
  refine hoist [] [] (a1 := ?_) 11 rfl (by kernel_rfl) (.inl ⟨rfl, rfl⟩) rfl rfl rfl (fun x K hK => ?_) ?_
  rotate_left
  · go_big_quiet_op
    exact hK
  refine hoist [] [] (a1 := ?_) 12 rfl (by kernel_rfl) (.inl ⟨rfl, rfl⟩) rfl rfl rfl (fun x K hK => ?_) ?_
  rotate_left
  · go_big_quiet_op
    exact hK
  refine done (by kernel_rfl) (fun xr => ?_)
  have BF := Lib.hid (B.out.trans xr.bw)
  clear l12 B P
  go_wp2_with fail
  go_ret
  exact ⟨rfl, BF.out⟩
end Go.Proofs.Ytikmhlbpefednaa

namespace Go.Proofs.Ytikmhlbpefednaa
open Go.RowKit

theorem EL_srcs (w : World) (base : Nat) : ∀ xs : List Nat, EL ES w base xs (xs.map fun (x : Nat) => Value.int .u32 (x : Nat))
  | [] => rfl
  | x :: xs => ⟨[.int .u32 (x : Nat)], xs.map fun (x : Nat) => Value.int .u32 (x : Nat), rfl, rfl, EL_srcs w base xs⟩
theorem SQ_srcs (w : World) (base : Nat) (xs : List Nat) (c : Array Value) (hc : c.toList = xs.map fun (x : Nat) => Value.int .u32 (x : Nat)) (n : Nat) (hn : xs.length = n) (h0 : 0 < n) (h1 : n ≤ 1000) : SQ ES (w.alloc (.cells c 24)) base (.slice (some ⟨w.heap.size, 0, none⟩) n n) n xs := by
  have hE : ES.size = 1 := rfl
  refine ⟨hn, xs.map fun (x : Nat) => Value.int .u32 (x : Nat), ⟨by rw [List.length_map, hE]; omega, by unfold maxLen; omega, .inr ⟨w.heap.size, 0, n, rfl, Nat.le_refl _, by unfold maxLen; omega, by simp, fun j hj => ?_⟩⟩, EL_srcs _ _ _⟩
  rw [Nat.zero_add, hp_cell (hp_new w _ _ rfl) j, ← Array.getElem?_toList, hc]
set_option maxRecDepth 100000 in
set_option maxHeartbeats 8000000 in
theorem wrep0_ok (g : Nat) (w : World) : Calls Try.prog 95 #[.pointer (some ⟨g, 0, none⟩), .slice none 0 0] w fun e w' => e = .returned (.tuple #[]) ∧ w = w' := by
  go_enter Try.func95, Try.ntmps95
  go_upto_region 1 with (fail)
  go_loopg [8] 0 (fun m' a wx => m' = 0 ∧ a = .int .i64 0 ∧ wx = w)
  case atStart => exact ⟨rfl, rfl, rfl⟩
  case round =>
    obtain ⟨rfl, rfl, rfl⟩ := hrel
    go_wp2_with fail
    go_end0
    exact ⟨rfl, rfl⟩
set_option maxRecDepth 100000 in
set_option maxHeartbeats 8000000 in
theorem wbody_pli (g : Nat) (l : List Nat) (s m : Nat) (hs : s < 4294967296) (hm : m < 4294967296) (hl : l.length ≤ 1000) (w : World) (h : WrV w g l) :
    Calls Try.prog 68 #[.pointer (some ⟨g, 0, none⟩), .agg (smC 2 s m)] w fun e w' => e = .returned (.tuple #[.int .i64 206, .int .i64 1]) ∧ WrV w' g (l ++ wordsB [s, m]) ∧ Still [g] w w' := by
  have BA : BW w (w.alloc (.cells (smC 2 s m) 69)) := (BW.refl w).alloc
  have P := Lib.hid (HpB.new w (.cells (smC 2 s m) 69))
  have B := Lib.hid BA
  have W0 := Lib.hid (h.bw BA)
  have hg := Lib.hid h.lt
  clear h
  replace BA := Lib.hid BA
  go_enter Try.func68, Try.ntmps68
  go_upto_region 1 with (fail)
  generalize (w.alloc _) = w1 at *
  generalize hgp : w.heap.size = gp at *
  clear BA
  have z0 := hp_cell (P.out) 0
  have z1 := hp_cell (P.out) 1
  have z2 := hp_cell (P.out) 2
  have z3 := hp_cell (P.out) 3
  have z4 := hp_cell (P.out) 4
  have z5 := hp_cell (P.out) 5
  have z6 := hp_cell (P.out) 6
  have z7 := hp_cell (P.out) 7
  have z8 := hp_cell (P.out) 8
  have z9 := hp_cell (P.out) 9
  have z10 := hp_cell (P.out) 10
  have z11 := hp_cell (P.out) 11
  have z12 := hp_cell (P.out) 12
  simp only [List.getElem?_toArray, List.getElem?_cons_zero, List.getElem?_cons_succ] at z0 z1 z2 z3 z4 z5 z6 z7 z8 z9 z10 z11 z12
  have BS : BW w1 (w1.alloc (.cells #[.int .u32 (s : Nat), .int .u32 (m : Nat)] 24)) := (BW.refl w1).alloc
  have Q := Lib.hid (SQ_srcs w1 0 [s, m] #[.int .u32 (s : Nat), .int .u32 (m : Nat)] rfl 2 rfl (by omega) (by omega))
  have hlt1 := Lib.hid (W0.out.lt)
  have cW := Lib.hid (wwords_ok g l _ 2 [s, m] 0 (by simp; omega) (by omega) (by omega) _ (W0.out.bw BS) Q.out (fun k hk => by simp [Value.ownBlock] at hk; have := hlt1.out; omega))
  have B1 := Lib.hid (B.out.trans BS)
  replace BS := Lib.hid BS
  replace hgp := Lib.hid hgp
  go_wp2_with fail
  refine Calls.mono cW.out ?_
  rintro e w2 ⟨rfl, W2, T2⟩
  have S2 := Lib.hid ((B1.out.still [g]).trans T2)
  replace W2 := Lib.hid W2
  clear T2 cW Q P W0 B B1 BS
  clear z0 z1 z2 z3 z4 z5 z6 z7 z8 z9 z10 z11 z12
  dsimp only
  go_wp2_with fail
  go_ret2
  exact ⟨rfl, W2.out, S2.out⟩
set_option maxRecDepth 100000 in
set_option maxHeartbeats 8000000 in
theorem wbody_rr (g : Nat) (l : List Nat) (s : Nat) (hs : s < 4294967296) (hl : l.length ≤ 1000) (w : World) (h : WrV w g l) :
    Calls Try.prog 68 #[.pointer (some ⟨g, 0, none⟩), .agg (smC 201 s 0)] w fun e w' => e = .returned (.tuple #[.int .i64 201, .int .i64 0]) ∧ WrV w' g (l ++ wordsB [s]) ∧ Still [g] w w' := by
  have BA : BW w (w.alloc (.cells (smC 201 s 0) 69)) := (BW.refl w).alloc
  have P := Lib.hid (HpB.new w (.cells (smC 201 s 0) 69))
  have B := Lib.hid BA
  have W0 := Lib.hid (h.bw BA)
  have hg := Lib.hid h.lt
  clear h
  replace BA := Lib.hid BA
  go_enter Try.func68, Try.ntmps68
  go_upto_region 1 with (fail)
  generalize (w.alloc _) = w1 at *
  generalize hgp : w.heap.size = gp at *
  clear BA
  have z0 := hp_cell (P.out) 0
  have z1 := hp_cell (P.out) 1
  have z2 := hp_cell (P.out) 2
  have z3 := hp_cell (P.out) 3
  have z4 := hp_cell (P.out) 4
  have z5 := hp_cell (P.out) 5
  have z6 := hp_cell (P.out) 6
  have z7 := hp_cell (P.out) 7
  have z8 := hp_cell (P.out) 8
  have z9 := hp_cell (P.out) 9
  have z10 := hp_cell (P.out) 10
  have z11 := hp_cell (P.out) 11
  have z12 := hp_cell (P.out) 12
  simp only [List.getElem?_toArray, List.getElem?_cons_zero, List.getElem?_cons_succ] at z0 z1 z2 z3 z4 z5 z6 z7 z8 z9 z10 z11 z12
  have BS : BW w1 (w1.alloc (.cells #[.int .u32 (s : Nat)] 24)) := (BW.refl w1).alloc
  have Q := Lib.hid (SQ_srcs w1 0 [s] #[.int .u32 (s : Nat)] rfl 1 rfl (by omega) (by omega))
  have hlt1 := Lib.hid (W0.out.lt)
  have cW := Lib.hid (wwords_ok g l _ 1 [s] 0 (by simp; omega) (by omega) (by omega) _ (W0.out.bw BS) Q.out (fun k hk => by simp [Value.ownBlock] at hk; have := hlt1.out; omega))
  have B1 := Lib.hid (B.out.trans BS)
  have P1 := Lib.hid (P.out.bw BS)
  have hpg : Hid (gp ≠ g) := by have := hg.out; show _ ≠ _; omega
  replace BS := Lib.hid BS
  replace hgp := Lib.hid hgp
  go_wp2_with fail
  refine Calls.mono cW.out ?_
  rintro e w2 ⟨rfl, W2, T2⟩
  have S2 := Lib.hid ((B1.out.still [g]).trans T2)
  have P2 := Lib.hid (P1.out.st T2 (by have := hpg.out; simpa using this))
  replace W2 := Lib.hid W2
  clear T2 cW Q P W0 B B1 BS P1
  clear z0 z1 z2 z3 z4 z5 z6 z7 z8 z9 z10 z11 z12
  dsimp only
  have z0 := hp_cell (P2.out) 0
  have z1 := hp_cell (P2.out) 1
  have z2 := hp_cell (P2.out) 2
  have z3 := hp_cell (P2.out) 3
  have z4 := hp_cell (P2.out) 4
  have z5 := hp_cell (P2.out) 5
  have z6 := hp_cell (P2.out) 6
  have z7 := hp_cell (P2.out) 7
  have z8 := hp_cell (P2.out) 8
  have z9 := hp_cell (P2.out) 9
  have z10 := hp_cell (P2.out) 10
  have z11 := hp_cell (P2.out) 11
  have z12 := hp_cell (P2.out) 12
  simp only [List.getElem?_toArray, List.getElem?_cons_zero, List.getElem?_cons_succ] at z0 z1 z2 z3 z4 z5 z6 z7 z8 z9 z10 z11 z12
  have c0 := Lib.hid (wrep0_ok g w2)
  go_wp2_with fail
  refine Calls.mono c0.out ?_
  rintro e w' ⟨rfl, rfl⟩
  dsimp only
  clear c0
  go_upto_region 11 with (fail)
  clear z0 z1 z2 z3 z4 z5 z6 z7 z8 z9 z10 z11 z12
  have l0 : ∀ y : LaterS [] w2, y.now.cell? ⟨gp, 0, none⟩ = some (.int .i64 201) := fun y => (hp_cell (P2.out.bw y.bw) 0).trans rfl
  have l7 : ∀ y : LaterS [] w2, y.now.cell? ⟨gp, 7, none⟩ = some (.slice none 0 0) := fun y => (hp_cell (P2.out.bw y.bw) 7).trans rfl
  refine wp_region_gg [] [] [] (by kernel_rfl) ?_
  refine hoist [] [] (a1 := ?_) 0 rfl (by kernel_rfl) (.inl ⟨rfl, rfl⟩) rfl rfl rfl (fun x K hK => ?_) ?_
  rotate_left
  · go_big_quiet_op
    exact hK
  refine hoist [] [] (a1 := ?_) 1 rfl (by kernel_rfl) (.inl ⟨rfl, rfl⟩) rfl rfl rfl (fun x K hK => ?_) ?_
  rotate_left
  · go_big_quiet_op
    exact hK
  refine hoist [] [] (a1 := ?_) 2 rfl (by kernel_rfl) (.inl ⟨rfl, rfl⟩) rfl rfl rfl (fun x K hK => ?_) ?_
  rotate_left
  · go_big_quiet_op
    exact hK
  refine hoist [] [] (a1 := ?_) 3 rfl (by kernel_rfl) (.inl ⟨rfl, rfl⟩) rfl rfl rfl (fun x K hK => ?_) ?_
  rotate_left
  · go_big_quiet_op
    exact hK
  refine hoist [] [] (a1 := ?_) 4 rfl (by kernel_rfl) (.inl ⟨rfl, rfl⟩) rfl rfl rfl (fun x K hK => ?_) ?_
  rotate_left
  · go_big_quiet_op
    exact hK
  refine hoist [] [] (a1 := ?_) 5 rfl (by kernel_rfl) (.inl ⟨rfl, rfl⟩) rfl rfl rfl (fun x K hK => ?_) ?_
  rotate_left
  · go_big_quiet_op
    exact hK
  refine hoist [] [] (a1 := ?_) 6 rfl (by kernel_rfl) (.inl ⟨rfl, rfl⟩) rfl rfl rfl (fun x K hK => ?_) ?_
  rotate_left
  · go_big_quiet_op
    exact hK
  refine done (by kernel_rfl) (fun xr => ?_)
  have W3 := Lib.hid (W2.out.bw xr.bw)
  have S3 := Lib.hid (S2.out.trans (xr.bw.still [g]))
  clear l0 l7 P2 W2 S2
  go_wp2_with fail
  go_ret2
  exact ⟨rfl, W3.out, S3.out⟩
end Go.Proofs.Ytikmhlbpefednaa

namespace Go.Proofs.Ytikmhlbpefednaa
open Go.RowKit

def smB_rr (s : Nat) : List Nat := [128, 201] ++ putB 2 (4 / 4) ++ wordsB [s]
set_option maxRecDepth 100000 in
set_option maxHeartbeats 8000000 in
theorem write_rr (s : Nat) (hs : s < 4294967296) (b o cap : Nat) (w : World) (hb : b < w.heap.size) (hc : 1 ≤ cap ∧ cap ≤ 1000000) (hx : ∀ j, j < 13 → w.cell? ⟨b, o + j, none⟩ = (smC 201 s 0 : Array Value)[j]?) :
    Calls Try.prog 42 #[.slice (some ⟨b, o, none⟩) 1 cap] w fun e w' => ∃ sa ca, e = .returned (.tuple #[.slice sa 8 ca, .int .i64 0]) ∧ OB w' w.heap.size 5 (.slice sa 8 ca) 8 (smB_rr s) ∧ BW w w' := by
  have hbl : (wordsB [s]).length = 4 := by rw [wordsB_len]; rfl
  have hB : Hid (smB_rr s = [128, 201] ++ putB 2 (4 / 4) ++ wordsB [s]) := rfl
  have cM := fun wz => Lib.hid (may_rr s hs wz)
  have cB := fun g wz h => Lib.hid (wbody_rr g [] s hs (by simp) wz h)
  simp only [List.nil_append] at cB
  generalize wordsB [s] = bl at *
  generalize smB_rr s = full at *
  obtain ⟨hc1, hc2⟩ := hc
  have y0 : w.cell? ⟨b, o, none⟩ = some (.int .i64 201) := (hx 0 (by decide)).trans rfl
  have y1 : w.cell? ⟨b, o + 1, none⟩ = some (.int .u32 (s : Nat)) := (hx 1 (by decide)).trans rfl
  have y2 : w.cell? ⟨b, o + 2, none⟩ = some (.int .u32 (0 : Nat)) := (hx 2 (by decide)).trans rfl
  have y3 : w.cell? ⟨b, o + 3, none⟩ = some (.int .u64 0) := (hx 3 (by decide)).trans rfl
  have y4 : w.cell? ⟨b, o + 4, none⟩ = some (.int .u32 0) := (hx 4 (by decide)).trans rfl
  have y5 : w.cell? ⟨b, o + 5, none⟩ = some (.int .u32 0) := (hx 5 (by decide)).trans rfl
  have y6 : w.cell? ⟨b, o + 6, none⟩ = some (.int .u32 0) := (hx 6 (by decide)).trans rfl
  have y7 : w.cell? ⟨b, o + 7, none⟩ = some (.slice none 0 0) := (hx 7 (by decide)).trans rfl
  have y8 : w.cell? ⟨b, o + 8, none⟩ = some (.slice none 0 0) := (hx 8 (by decide)).trans rfl
  have y9 : w.cell? ⟨b, o + 9, none⟩ = some (.slice none 0 0) := (hx 9 (by decide)).trans rfl
  have y10 : w.cell? ⟨b, o + 10, none⟩ = some (.slice none 0 0) := (hx 10 (by decide)).trans rfl
  have y11 : w.cell? ⟨b, o + 11, none⟩ = some (.slice none 0 0) := (hx 11 (by decide)).trans rfl
  have y12 : w.cell? ⟨b, o + 12, none⟩ = some (.int .u64 0) := (hx 12 (by decide)).trans rfl
  clear hx
  replace hbl := Lib.hid hbl
  go_enter Try.func42, Try.ntmps42
  go_upto_region 5 with (fail)
  go_loopg [4, 20] 1 (fun m' x a wx => (m' = 1 ∧ x = .slice none 0 0 ∧ a = .int .i64 0 ∧ wx = w) ∨ (m' = 0 ∧ ∃ sa ca, x = .slice sa 8 ca ∧ ca ≤ 9223372036854775807 ∧ a = .int .i64 1 ∧ Hid (OB wx w.heap.size 5 (.slice sa 8 ca) 8 full) ∧ Hid (BW w wx)))
  case atStart => exact .inl ⟨rfl, rfl, rfl, rfl⟩
  case round =>
    rcases hrel with ⟨rfl, rfl, rfl, rfl⟩ | ⟨rfl, s9, c9, rfl, hc9, rfl, O9, B9⟩
    rotate_left
    · go_wp2_with fail
      go_ret2
      exact ⟨s9, c9, rfl, O9.out, B9.out⟩
    have BA : BW wr (wr.alloc (.cells (smC 201 s 0) 69)) := (BW.refl wr).alloc
    have P := Lib.hid (HpB.new wr (.cells (smC 201 s 0) 69))
    have B := Lib.hid BA
    replace BA := Lib.hid BA
    go_upto_region 7 with (fail)
    clear y0 y1 y2 y3 y4 y5 y6 y7 y8 y9 y10 y11 y12
    generalize (wr.alloc _) = w1 at *
    generalize hgp : wr.heap.size = gp at *
    clear BA
    replace hgp := Lib.hid hgp
    have z0 := hp_cell (P.out) 0
    have z1 := hp_cell (P.out) 1
    have z2 := hp_cell (P.out) 2
    have z3 := hp_cell (P.out) 3
    have z4 := hp_cell (P.out) 4
    have z5 := hp_cell (P.out) 5
    have z6 := hp_cell (P.out) 6
    have z7 := hp_cell (P.out) 7
    have z8 := hp_cell (P.out) 8
    have z9 := hp_cell (P.out) 9
    have z10 := hp_cell (P.out) 10
    have z11 := hp_cell (P.out) 11
    have z12 := hp_cell (P.out) 12
    simp only [List.getElem?_toArray, List.getElem?_cons_zero, List.getElem?_cons_succ] at z0 z1 z2 z3 z4 z5 z6 z7 z8 z9 z10 z11 z12
    go_wp2_with fail
    refine Calls.mono (cM w1).out ?_
    rintro e w2 ⟨rfl, hb2⟩
    replace P := Lib.hid (P.out.bw hb2)
    replace B := Lib.hid (B.out.trans hb2)
    clear hb2 cM
    clear z0 z1 z2 z3 z4 z5 z6 z7 z8 z9 z10 z11 z12
    dsimp only
    have BG : BW w2 (w2.alloc (.cells #[.slice none 0 0] 130)) := (BW.refl w2).alloc
    have V := Lib.hid (WrV.new w2)
    have hpl := Lib.hid P.out.lt
    replace P := Lib.hid (P.out.bw BG)
    have B2 := Lib.hid B.out.size
    replace B := Lib.hid (B.out.trans BG)
    replace BG := Lib.hid BG
    go_upto_region 10 with (fail)
    generalize (w2.alloc _) = w3 at *
    generalize hgw : w2.heap.size = gw at *
    clear BG
    have cB1 := cB gw w3 V.out
    clear cB
    have z0 := hp_cell (P.out) 0
    have z1 := hp_cell (P.out) 1
    have z2 := hp_cell (P.out) 2
    have z3 := hp_cell (P.out) 3
    have z4 := hp_cell (P.out) 4
    have z5 := hp_cell (P.out) 5
    have z6 := hp_cell (P.out) 6
    have z7 := hp_cell (P.out) 7
    have z8 := hp_cell (P.out) 8
    have z9 := hp_cell (P.out) 9
    have z10 := hp_cell (P.out) 10
    have z11 := hp_cell (P.out) 11
    have z12 := hp_cell (P.out) 12
    simp only [List.getElem?_toArray, List.getElem?_cons_zero, List.getElem?_cons_succ] at z0 z1 z2 z3 z4 z5 z6 z7 z8 z9 z10 z11 z12
    replace hgw := Lib.hid hgw
    go_wp2_with fail
    refine Calls.mono cB1.out ?_
    rintro e w4 ⟨rfl, V4, T4⟩
    have B4 := Lib.hid (B.out.stP T4 (fun j hj => by obtain rfl : j = gw := (by simpa using hj); have := B2.out; have := hgw.out; omega))
    replace V4 := Lib.hid V4
    clear T4 cB1 P B V
    clear z0 z1 z2 z3 z4 z5 z6 z7 z8 z9 z10 z11 z12
    dsimp only
    have L5 := Lib.hid (AvB.new w4 5 [128, 201])
    have X5 := Lib.hid (L5.out.sb (by intro x hx; simp at hx; omega) 2 rfl (by decide))
    go_upto_region 12 with (at_builtin; go_must (refine wpList_apOB rfl _ _ rfl wr.heap.size _ _ _ rfl (OB.nil _ wr.heap.size 5) _ rfl _ _ (X5.out) (by omega) (BW.trans B4.out (by repeat (first | exact BW.refl _ | apply BW.alloc | apply BW.drewN | apply BW.drew))).size ?_; intro s5 c5 w5 hcc5 hmc5 O5 hT hb hG; unfold maxLen at hmc5; replace hG := Lib.hid hG; replace hT := Lib.hid hT; skip))
    replace B4 := Lib.hid (BW.step (BW.trans B4.out (by repeat (first | exact BW.refl _ | apply BW.alloc | apply BW.drewN | apply BW.drew))) hb (Nat.le_refl _))
    replace O5 := Lib.hid O5
    clear hb
    simp only [Nat.zero_add, List.nil_append] at O5 hcc5
    have hb5 : BW w4 w5 := ((BW.refl w4).alloc (o := .cells #[.int .u8 128, .int .u8 201] 5)).stP (show Still (Value.slice none 0 0).ownBlock.toList _ w5 from hT.out) (fun j hj => by simp [Value.ownBlock] at hj)
    have V5 := Lib.hid (V4.out.bw hb5)
    clear hT hG X5 L5 V4 hb5
    obtain ⟨s6, c6, V6, O6⟩ := V5.out
    have hbll := hbl.out
    rw [hbll] at V6 O6
    have l0 : ∀ y : LaterS [] w5, y.now.cell? ⟨gw, 0, none⟩ = some (.slice s6 4 c6) := fun y => (hp_cell (V6.bw y.bw) 0).trans rfl
    have cP := fun wz (h : BW w5 wz) => Lib.hid (show Calls Try.prog _ #[.slice s5 2 c5, .int .i64 2, .int .u64 1] wz _ from put_ok (.slice s5 2 c5) 2 [128, 201] 2 1 2 (by decide) (by decide) rfl (by decide) (by decide) wz (O5.out.bw h).sb)
    clear V5 V6 hbll
    replace O6 := Lib.hid O6
    refine wp_region_gg [] [] [13] (by kernel_rfl) ?_
    refine hoist [] [] (a1 := ?_) 0 rfl (by kernel_rfl) (.inl ⟨rfl, rfl⟩) rfl rfl rfl (fun x K hK => ?_) ?_
    rotate_left
    · go_big_quiet_op
      exact hK
    refine hoist [] [] (a1 := ?_) 1 rfl (by kernel_rfl) (.inl ⟨rfl, rfl⟩) rfl rfl rfl (fun x K hK => ?_) ?_
    rotate_left
    · go_big_quiet_op
      exact hK
    refine hoist [] [] (a1 := ?_) 2 rfl (by kernel_rfl) (.inl ⟨rfl, rfl⟩) rfl rfl rfl (fun x K hK => ?_) ?_
    rotate_left
    · go_big_quiet_op
      exact hK
    refine hoist [] [] (a1 := ?_) 3 rfl (by kernel_rfl) (.inl ⟨rfl, rfl⟩) rfl rfl rfl (fun x K hK => ?_) ?_
    rotate_left
    · go_big_quiet_op
      exact hK
    refine hoist [] [] (a1 := ?_) 4 rfl (by kernel_rfl) (.inl ⟨rfl, rfl⟩) rfl rfl rfl (fun x K hK => ?_) ?_
    rotate_left
    · go_big_quiet_op
      exact hK
    refine hoist [] [] (a1 := ?_) 5 rfl (by kernel_rfl) (.inl ⟨rfl, rfl⟩) rfl rfl rfl (fun x K hK => ?_) ?_
    rotate_left
    · go_big_quiet_op
      exact hK
    refine hoist [] [] (a1 := ?_) 6 rfl (by kernel_rfl) (.inl ⟨rfl, rfl⟩) rfl rfl rfl (fun x K hK => ?_) ?_
    rotate_left
    · go_big_quiet_op
      exact hK
    refine hoist [] [] (a1 := ?_) 7 rfl (by kernel_rfl) (.inl ⟨rfl, rfl⟩) rfl rfl rfl (fun x K hK => ?_) ?_
    rotate_left
    · go_big_quiet_op
      exact hK
    refine hoist [] [] (a1 := ?_) 9 rfl (by kernel_rfl) (.inl ⟨rfl, rfl⟩) rfl rfl rfl (fun x K hK => ?_) ?_
    rotate_left
    · go_big_quiet_op
      exact hK
    refine hoist [] [] (a1 := ?_) 10 rfl (by kernel_rfl) (.inl ⟨rfl, rfl⟩) rfl rfl rfl (fun x K hK => ?_) ?_
    rotate_left
    · go_big_quiet_op
      exact hK
    refine hoist [] [] (a1 := ?_) 11 rfl (by kernel_rfl) (.inl ⟨rfl, rfl⟩) rfl rfl rfl (fun x K hK => ?_) ?_
    rotate_left
    · go_big_quiet_op
      exact hK
    refine hoist [] [] (a1 := ?_) 12 rfl (by kernel_rfl) (.inl ⟨rfl, rfl⟩) rfl rfl rfl (fun x K hK => ?_) ?_
    rotate_left
    · go_big_quiet_op
      exact hK
    refine effect 8 rfl (by kernel_rfl) (by kernel_rfl) rfl (fun x8 K hK => ?_)
    go_simp
    refine Calls.mono (cP x8.now x8.bw).out ?_
    rintro e w7 ⟨v7, rfl, O7, hb⟩
    obtain ⟨s7, c7, rfl, h7, m7⟩ := O7.len
    unfold maxLen at m7
    refine hK _ _ (Still.of_below hb) ?_
    clear hK K
    have hb7 := Lib.hid (x8.bw.call hb)
    replace O7 := Lib.hid (O7.up (base' := wr.heap.size) (by have := B4.out.size; have := x8.bw.size; omega))
    have l0 : ∀ y : LaterS [] w7, y.now.cell? ⟨gw, 0, none⟩ = some (.slice s6 4 c6) := fun y => y.bw.cell (l0 ⟨w7, hb7.out.still []⟩)
    clear hb cP
    try simp only [Act.put, List.setIfInBounds_toArray, List.set_cons_succ, List.set_cons_zero]
    refine tail 13 rfl (by kernel_rfl) rfl (fun xr => ?_)
    simp only [List.drop_succ_cons, List.drop_zero]
    have hb8 := Lib.hid (hb7.out.trans xr.bw)
    replace O7 := Lib.hid (O7.out.bw xr.bw)
    replace O6 := Lib.hid (O6.out.bw hb8.out)
    replace B4 := Lib.hid (B4.out.trans hb8.out)
    clear hb7 hb8 O5 l0
    generalize xr.now = w8 at *
    go_upto_region 13 with (at_builtin; go_must (refine wpList_apOB rfl _ _ rfl wr.heap.size _ _ _ rfl (O7.out) _ rfl _ _ (O6.out.sb) (by omega) (BW.trans B4.out (by repeat (first | exact BW.refl _ | apply BW.alloc | apply BW.drewN | apply BW.drew))).size ?_; intro s9 c9 w9 hcc9 hmc9 O9 hT hb hG; unfold maxLen at hmc9; replace hG := Lib.hid hG; replace hT := Lib.hid hT; skip))
    replace B4 := Lib.hid (BW.step (BW.trans B4.out (by repeat (first | exact BW.refl _ | apply BW.alloc | apply BW.drewN | apply BW.drew))) hb (Nat.le_refl _))
    replace O9 := Lib.hid O9
    clear hb
    have hB2 := hB.out
    rw [show [128, 201] ++ putB 2 (4 / 4) ++ bl = [128, 201] ++ putB 2 1 ++ bl from rfl] at hB2
    rw [← hB2] at O9
    clear hT hG O7 O6 hB2
    go_wp2_with fail
    go_roundg 0
    case measure => omega
    case rel => exact .inr ⟨rfl, s9, c9, rfl, by omega, rfl, Lib.hid (by rw [← hgp.out]; exact O9.out), B4⟩
def smB_pli (s m : Nat) : List Nat := [129, 206] ++ putB 2 (8 / 4) ++ wordsB [s, m]
set_option maxRecDepth 100000 in
set_option maxHeartbeats 8000000 in
theorem write_pli (s m : Nat) (hs : s < 4294967296) (hm : m < 4294967296) (b o cap : Nat) (w : World) (hb : b < w.heap.size) (hc : 1 ≤ cap ∧ cap ≤ 1000000) (hx : ∀ j, j < 13 → w.cell? ⟨b, o + j, none⟩ = (smC 2 s m : Array Value)[j]?) :
    Calls Try.prog 42 #[.slice (some ⟨b, o, none⟩) 1 cap] w fun e w' => ∃ sa ca, e = .returned (.tuple #[.slice sa 12 ca, .int .i64 0]) ∧ OB w' w.heap.size 5 (.slice sa 12 ca) 12 (smB_pli s m) ∧ BW w w' := by
  have hbl : (wordsB [s, m]).length = 8 := by rw [wordsB_len]; rfl
  have hB : Hid (smB_pli s m = [129, 206] ++ putB 2 (8 / 4) ++ wordsB [s, m]) := rfl
  have cM := fun wz => Lib.hid (may_pli s m hs wz)
  have cB := fun g wz h => Lib.hid (wbody_pli g [] s m hs hm (by simp) wz h)
  simp only [List.nil_append] at cB
  generalize wordsB [s, m] = bl at *
  generalize smB_pli s m = full at *
  obtain ⟨hc1, hc2⟩ := hc
  have y0 : w.cell? ⟨b, o, none⟩ = some (.int .i64 2) := (hx 0 (by decide)).trans rfl
  have y1 : w.cell? ⟨b, o + 1, none⟩ = some (.int .u32 (s : Nat)) := (hx 1 (by decide)).trans rfl
  have y2 : w.cell? ⟨b, o + 2, none⟩ = some (.int .u32 (m : Nat)) := (hx 2 (by decide)).trans rfl
  have y3 : w.cell? ⟨b, o + 3, none⟩ = some (.int .u64 0) := (hx 3 (by decide)).trans rfl
  have y4 : w.cell? ⟨b, o + 4, none⟩ = some (.int .u32 0) := (hx 4 (by decide)).trans rfl
  have y5 : w.cell? ⟨b, o + 5, none⟩ = some (.int .u32 0) := (hx 5 (by decide)).trans rfl
  have y6 : w.cell? ⟨b, o + 6, none⟩ = some (.int .u32 0) := (hx 6 (by decide)).trans rfl
  have y7 : w.cell? ⟨b, o + 7, none⟩ = some (.slice none 0 0) := (hx 7 (by decide)).trans rfl
  have y8 : w.cell? ⟨b, o + 8, none⟩ = some (.slice none 0 0) := (hx 8 (by decide)).trans rfl
  have y9 : w.cell? ⟨b, o + 9, none⟩ = some (.slice none 0 0) := (hx 9 (by decide)).trans rfl
  have y10 : w.cell? ⟨b, o + 10, none⟩ = some (.slice none 0 0) := (hx 10 (by decide)).trans rfl
  have y11 : w.cell? ⟨b, o + 11, none⟩ = some (.slice none 0 0) := (hx 11 (by decide)).trans rfl
  have y12 : w.cell? ⟨b, o + 12, none⟩ = some (.int .u64 0) := (hx 12 (by decide)).trans rfl
  clear hx
  replace hbl := Lib.hid hbl
  go_enter Try.func42, Try.ntmps42
  go_upto_region 5 with (fail)
  go_loopg [4, 20] 1 (fun m' x a wx => (m' = 1 ∧ x = .slice none 0 0 ∧ a = .int .i64 0 ∧ wx = w) ∨ (m' = 0 ∧ ∃ sa ca, x = .slice sa 12 ca ∧ ca ≤ 9223372036854775807 ∧ a = .int .i64 1 ∧ Hid (OB wx w.heap.size 5 (.slice sa 12 ca) 12 full) ∧ Hid (BW w wx)))
  case atStart => exact .inl ⟨rfl, rfl, rfl, rfl⟩
  case round =>
    rcases hrel with ⟨rfl, rfl, rfl, rfl⟩ | ⟨rfl, s9, c9, rfl, hc9, rfl, O9, B9⟩
    rotate_left
    · go_wp2_with fail
      go_ret2
      exact ⟨s9, c9, rfl, O9.out, B9.out⟩
    have BA : BW wr (wr.alloc (.cells (smC 2 s m) 69)) := (BW.refl wr).alloc
    have P := Lib.hid (HpB.new wr (.cells (smC 2 s m) 69))
    have B := Lib.hid BA
    replace BA := Lib.hid BA
    go_upto_region 7 with (fail)
    clear y0 y1 y2 y3 y4 y5 y6 y7 y8 y9 y10 y11 y12
    generalize (wr.alloc _) = w1 at *
    generalize hgp : wr.heap.size = gp at *
    clear BA
    replace hgp := Lib.hid hgp
    have z0 := hp_cell (P.out) 0
    have z1 := hp_cell (P.out) 1
    have z2 := hp_cell (P.out) 2
    have z3 := hp_cell (P.out) 3
    have z4 := hp_cell (P.out) 4
    have z5 := hp_cell (P.out) 5
    have z6 := hp_cell (P.out) 6
    have z7 := hp_cell (P.out) 7
    have z8 := hp_cell (P.out) 8
    have z9 := hp_cell (P.out) 9
    have z10 := hp_cell (P.out) 10
    have z11 := hp_cell (P.out) 11
    have z12 := hp_cell (P.out) 12
    simp only [List.getElem?_toArray, List.getElem?_cons_zero, List.getElem?_cons_succ] at z0 z1 z2 z3 z4 z5 z6 z7 z8 z9 z10 z11 z12
    go_wp2_with fail
    refine Calls.mono (cM w1).out ?_
    rintro e w2 ⟨rfl, hb2⟩
    replace P := Lib.hid (P.out.bw hb2)
    replace B := Lib.hid (B.out.trans hb2)
    clear hb2 cM
    clear z0 z1 z2 z3 z4 z5 z6 z7 z8 z9 z10 z11 z12
    dsimp only
    have BG : BW w2 (w2.alloc (.cells #[.slice none 0 0] 130)) := (BW.refl w2).alloc
    have V := Lib.hid (WrV.new w2)
    have hpl := Lib.hid P.out.lt
    replace P := Lib.hid (P.out.bw BG)
    have B2 := Lib.hid B.out.size
    replace B := Lib.hid (B.out.trans BG)
    replace BG := Lib.hid BG
    go_upto_region 10 with (fail)
    generalize (w2.alloc _) = w3 at *
    generalize hgw : w2.heap.size = gw at *
    clear BG
    have cB1 := cB gw w3 V.out
    clear cB
    have z0 := hp_cell (P.out) 0
    have z1 := hp_cell (P.out) 1
    have z2 := hp_cell (P.out) 2
    have z3 := hp_cell (P.out) 3
    have z4 := hp_cell (P.out) 4
    have z5 := hp_cell (P.out) 5
    have z6 := hp_cell (P.out) 6
    have z7 := hp_cell (P.out) 7
    have z8 := hp_cell (P.out) 8
    have z9 := hp_cell (P.out) 9
    have z10 := hp_cell (P.out) 10
    have z11 := hp_cell (P.out) 11
    have z12 := hp_cell (P.out) 12
    simp only [List.getElem?_toArray, List.getElem?_cons_zero, List.getElem?_cons_succ] at z0 z1 z2 z3 z4 z5 z6 z7 z8 z9 z10 z11 z12
    replace hgw := Lib.hid hgw
    go_wp2_with fail
    refine Calls.mono cB1.out ?_
    rintro e w4 ⟨rfl, V4, T4⟩
    have B4 := Lib.hid (B.out.stP T4 (fun j hj => by obtain rfl : j = gw := (by simpa using hj); have := B2.out; have := hgw.out; omega))
    replace V4 := Lib.hid V4
    clear T4 cB1 P B V
    clear z0 z1 z2 z3 z4 z5 z6 z7 z8 z9 z10 z11 z12
    dsimp only
    have L5 := Lib.hid (AvB.new w4 5 [129, 206])
    have X5 := Lib.hid (L5.out.sb (by intro x hx; simp at hx; omega) 2 rfl (by decide))
    go_upto_region 12 with (at_builtin; go_must (refine wpList_apOB rfl _ _ rfl wr.heap.size _ _ _ rfl (OB.nil _ wr.heap.size 5) _ rfl _ _ (X5.out) (by omega) (BW.trans B4.out (by repeat (first | exact BW.refl _ | apply BW.alloc | apply BW.drewN | apply BW.drew))).size ?_; intro s5 c5 w5 hcc5 hmc5 O5 hT hb hG; unfold maxLen at hmc5; replace hG := Lib.hid hG; replace hT := Lib.hid hT; skip))
    replace B4 := Lib.hid (BW.step (BW.trans B4.out (by repeat (first | exact BW.refl _ | apply BW.alloc | apply BW.drewN | apply BW.drew))) hb (Nat.le_refl _))
    replace O5 := Lib.hid O5
    clear hb
    simp only [Nat.zero_add, List.nil_append] at O5 hcc5
    have hb5 : BW w4 w5 := ((BW.refl w4).alloc (o := .cells #[.int .u8 129, .int .u8 206] 5)).stP (show Still (Value.slice none 0 0).ownBlock.toList _ w5 from hT.out) (fun j hj => by simp [Value.ownBlock] at hj)
    have V5 := Lib.hid (V4.out.bw hb5)
    clear hT hG X5 L5 V4 hb5
    obtain ⟨s6, c6, V6, O6⟩ := V5.out
    have hbll := hbl.out
    rw [hbll] at V6 O6
    have l0 : ∀ y : LaterS [] w5, y.now.cell? ⟨gw, 0, none⟩ = some (.slice s6 8 c6) := fun y => (hp_cell (V6.bw y.bw) 0).trans rfl
    have cP := fun wz (h : BW w5 wz) => Lib.hid (show Calls Try.prog _ #[.slice s5 2 c5, .int .i64 2, .int .u64 2] wz _ from put_ok (.slice s5 2 c5) 2 [129, 206] 2 2 2 (by decide) (by decide) rfl (by decide) (by decide) wz (O5.out.bw h).sb)
    clear V5 V6 hbll
    replace O6 := Lib.hid O6
    refine wp_region_gg [] [] [13] (by kernel_rfl) ?_
    refine hoist [] [] (a1 := ?_) 0 rfl (by kernel_rfl) (.inl ⟨rfl, rfl⟩) rfl rfl rfl (fun x K hK => ?_) ?_
    rotate_left
    · go_big_quiet_op
      exact hK
    refine hoist [] [] (a1 := ?_) 1 rfl (by kernel_rfl) (.inl ⟨rfl, rfl⟩) rfl rfl rfl (fun x K hK => ?_) ?_
    rotate_left
    · go_big_quiet_op
      exact hK
    refine hoist [] [] (a1 := ?_) 2 rfl (by kernel_rfl) (.inl ⟨rfl, rfl⟩) rfl rfl rfl (fun x K hK => ?_) ?_
    rotate_left
    · go_big_quiet_op
      exact hK
    refine hoist [] [] (a1 := ?_) 3 rfl (by kernel_rfl) (.inl ⟨rfl, rfl⟩) rfl rfl rfl (fun x K hK => ?_) ?_
    rotate_left
    · go_big_quiet_op
      exact hK
    refine hoist [] [] (a1 := ?_) 4 rfl (by kernel_rfl) (.inl ⟨rfl, rfl⟩) rfl rfl rfl (fun x K hK => ?_) ?_
    rotate_left
    · go_big_quiet_op
      exact hK
    refine hoist [] [] (a1 := ?_) 5 rfl (by kernel_rfl) (.inl ⟨rfl, rfl⟩) rfl rfl rfl (fun x K hK => ?_) ?_
    rotate_left
    · go_big_quiet_op
      exact hK
    refine hoist [] [] (a1 := ?_) 6 rfl (by kernel_rfl) (.inl ⟨rfl, rfl⟩) rfl rfl rfl (fun x K hK => ?_) ?_
    rotate_left
    · go_big_quiet_op
      exact hK
    refine hoist [] [] (a1 := ?_) 7 rfl (by kernel_rfl) (.inl ⟨rfl, rfl⟩) rfl rfl rfl (fun x K hK => ?_) ?_
    rotate_left
    · go_big_quiet_op
      exact hK
    refine hoist [] [] (a1 := ?_) 9 rfl (by kernel_rfl) (.inl ⟨rfl, rfl⟩) rfl rfl rfl (fun x K hK => ?_) ?_
    rotate_left
    · go_big_quiet_op
      exact hK
    refine hoist [] [] (a1 := ?_) 10 rfl (by kernel_rfl) (.inl ⟨rfl, rfl⟩) rfl rfl rfl (fun x K hK => ?_) ?_
    rotate_left
    · go_big_quiet_op
      exact hK
    refine hoist [] [] (a1 := ?_) 11 rfl (by kernel_rfl) (.inl ⟨rfl, rfl⟩) rfl rfl rfl (fun x K hK => ?_) ?_
    rotate_left
    · go_big_quiet_op
      exact hK
    refine hoist [] [] (a1 := ?_) 12 rfl (by kernel_rfl) (.inl ⟨rfl, rfl⟩) rfl rfl rfl (fun x K hK => ?_) ?_
    rotate_left
    · go_big_quiet_op
      exact hK
    refine effect 8 rfl (by kernel_rfl) (by kernel_rfl) rfl (fun x8 K hK => ?_)
    go_simp
    refine Calls.mono (cP x8.now x8.bw).out ?_
    rintro e w7 ⟨v7, rfl, O7, hb⟩
    obtain ⟨s7, c7, rfl, h7, m7⟩ := O7.len
    unfold maxLen at m7
    refine hK _ _ (Still.of_below hb) ?_
    clear hK K
    have hb7 := Lib.hid (x8.bw.call hb)
    replace O7 := Lib.hid (O7.up (base' := wr.heap.size) (by have := B4.out.size; have := x8.bw.size; omega))
    have l0 : ∀ y : LaterS [] w7, y.now.cell? ⟨gw, 0, none⟩ = some (.slice s6 8 c6) := fun y => y.bw.cell (l0 ⟨w7, hb7.out.still []⟩)
    clear hb cP
    try simp only [Act.put, List.setIfInBounds_toArray, List.set_cons_succ, List.set_cons_zero]
    refine tail 13 rfl (by kernel_rfl) rfl (fun xr => ?_)
    simp only [List.drop_succ_cons, List.drop_zero]
    have hb8 := Lib.hid (hb7.out.trans xr.bw)
    replace O7 := Lib.hid (O7.out.bw xr.bw)
    replace O6 := Lib.hid (O6.out.bw hb8.out)
    replace B4 := Lib.hid (B4.out.trans hb8.out)
    clear hb7 hb8 O5 l0
    generalize xr.now = w8 at *
    go_upto_region 13 with (at_builtin; go_must (refine wpList_apOB rfl _ _ rfl wr.heap.size _ _ _ rfl (O7.out) _ rfl _ _ (O6.out.sb) (by omega) (BW.trans B4.out (by repeat (first | exact BW.refl _ | apply BW.alloc | apply BW.drewN | apply BW.drew))).size ?_; intro s9 c9 w9 hcc9 hmc9 O9 hT hb hG; unfold maxLen at hmc9; replace hG := Lib.hid hG; replace hT := Lib.hid hT; skip))
    replace B4 := Lib.hid (BW.step (BW.trans B4.out (by repeat (first | exact BW.refl _ | apply BW.alloc | apply BW.drewN | apply BW.drew))) hb (Nat.le_refl _))
    replace O9 := Lib.hid O9
    clear hb
    have hB2 := hB.out
    rw [show [129, 206] ++ putB 2 (8 / 4) ++ bl = [129, 206] ++ putB 2 2 ++ bl from rfl] at hB2
    rw [← hB2] at O9
    clear hT hG O7 O6 hB2
    go_wp2_with fail
    go_roundg 0
    case measure => omega
    case rel => exact .inr ⟨rfl, s9, c9, rfl, by omega, rfl, Lib.hid (by rw [← hgp.out]; exact O9.out), B4⟩
end Go.Proofs.Ytikmhlbpefednaa

namespace Go.Proofs.Ytikmhlbpefednaa
open Go.RowKit

/-- Such a packet as it is read: its lists are empty, wherever they point. -/
abbrev smG (k : Int) (s m : Nat) (a1 a2 a3 a4 a5 : Option Addr) (c1 c2 c3 c4 c5 : Nat) : Array Value := #[.int .i64 k, .int .u32 (s : Nat), .int .u32 (m : Nat), .int .u64 0, .int .u32 0, .int .u32 0, .int .u32 0, .slice a1 0 c1, .slice a2 0 c2, .slice a3 0 c3, .slice a4 0 c4, .slice a5 0 c5, .int .u64 0]
set_option maxRecDepth 100000 in
set_option maxHeartbeats 8000000 in
theorem csame_sm (k : Int) (s m : Nat) (a1 a2 a3 a4 a5 : Option Addr) (c1 c2 c3 c4 c5 : Nat) (hs : s < 4294967296) (hm : m < 4294967296) (w : World) :
    Calls Try.prog 66 #[.agg (smC k s m), .agg (smG k s m a1 a2 a3 a4 a5 c1 c2 c3 c4 c5)] w fun e w' => e = .returned (.bool true) ∧ BW w w' := by
  have BA : BW w (w.alloc (.cells (smC k s m) 69)) := (BW.refl w).alloc
  have BC : BW (w.alloc (.cells (smC k s m) 69)) ((w.alloc (.cells (smC k s m) 69)).alloc (.cells (smG k s m a1 a2 a3 a4 a5 c1 c2 c3 c4 c5) 69)) := (BW.refl _).alloc
  have P := Lib.hid ((HpB.new w (.cells (smC k s m) 69)).bw BC)
  have Q := Lib.hid (show HpB _ (w.heap.size + 1) _ from hp_new (w.alloc (.cells (smC k s m) 69)) (.cells (smG k s m a1 a2 a3 a4 a5 c1 c2 c3 c4 c5) 69) (w.heap.size + 1) (by simp))
  have B := Lib.hid (BA.trans BC)
  clear hs hm
  replace BA := Lib.hid BA
  replace BC := Lib.hid BC
  go_enter Try.func66, Try.ntmps66
  go_upto_region 1 with (fail)
  generalize ((w.alloc _).alloc _) = w1 at *
  clear BA BC
  have z0 := hp_cell (P.out) 0
  have z1 := hp_cell (P.out) 1
  have z2 := hp_cell (P.out) 2
  have z3 := hp_cell (P.out) 3
  have z4 := hp_cell (P.out) 4
  have z5 := hp_cell (P.out) 5
  have z6 := hp_cell (P.out) 6
  have z7 := hp_cell (P.out) 7
  have z8 := hp_cell (P.out) 8
  have z9 := hp_cell (P.out) 9
  have z10 := hp_cell (P.out) 10
  have z11 := hp_cell (P.out) 11
  have z12 := hp_cell (P.out) 12
  simp only [List.getElem?_toArray, List.getElem?_cons_zero, List.getElem?_cons_succ] at z0 z1 z2 z3 z4 z5 z6 z7 z8 z9 z10 z11 z12
  have k0 := hp_cell (Q.out) 0
  have k1 := hp_cell (Q.out) 1
  have k2 := hp_cell (Q.out) 2
  have k3 := hp_cell (Q.out) 3
  have k4 := hp_cell (Q.out) 4
  have k5 := hp_cell (Q.out) 5
  have k6 := hp_cell (Q.out) 6
  have k7 := hp_cell (Q.out) 7
  have k8 := hp_cell (Q.out) 8
  have k9 := hp_cell (Q.out) 9
  have k10 := hp_cell (Q.out) 10
  have k11 := hp_cell (Q.out) 11
  have k12 := hp_cell (Q.out) 12
  simp only [List.getElem?_toArray, List.getElem?_cons_zero, List.getElem?_cons_succ] at k0 k1 k2 k3 k4 k5 k6 k7 k8 k9 k10 k11 k12
  clear P Q
  go_upto_region 6 with (fail)
  go_loopg [5] 0 (fun m' a wx => m' = 0 ∧ a = .int .i64 0 ∧ wx = w1)
  case atStart => exact ⟨rfl, rfl, rfl⟩
  case round =>
    obtain ⟨rfl, rfl, hwe⟩ := hrel
    subst hwe
    rename World => w1
    go_upto_region 11 with (fail)
    go_loopg [6] 0 (fun m' a wx => m' = 0 ∧ a = .int .i64 0 ∧ wx = w1)
    case atStart => exact ⟨rfl, rfl, rfl⟩
    case round =>
      obtain ⟨rfl, rfl, hwe⟩ := hrel
      subst hwe
      rename World => w1
      go_upto_region 16 with (fail)
      go_loopg [7] 0 (fun m' a wx => m' = 0 ∧ a = .int .i64 0 ∧ wx = w1)
      case atStart => exact ⟨rfl, rfl, rfl⟩
      case round =>
        obtain ⟨rfl, rfl, hwe⟩ := hrel
        subst hwe
        rename World => w1
        go_upto_region 21 with (fail)
        go_loopg [8] 0 (fun m' a wx => m' = 0 ∧ a = .int .i64 0 ∧ wx = w1)
        case atStart => exact ⟨rfl, rfl, rfl⟩
        case round =>
          obtain ⟨rfl, rfl, hwe⟩ := hrel
          subst hwe
          rename World => w1
          go_upto_region 26 with (fail)
          go_loopg [9] 0 (fun m' a wx => m' = 0 ∧ a = .int .i64 0 ∧ wx = w1)
          case atStart => exact ⟨rfl, rfl, rfl⟩
          case round =>
            obtain ⟨rfl, rfl, hwe⟩ := hrel
            subst hwe
            rename World => w1
            go_wp2_with fail
            go_ret
            exact ⟨rfl, B.out⟩
end Go.Proofs.Ytikmhlbpefednaa

namespace Go.Proofs.Ytikmhlbpefednaa
open Go.RowKit

set_option maxRecDepth 100000 in
set_option maxHeartbeats 8000000 in
theorem csames_sm (k : Int) (s m : Nat) (a1 a2 a3 a4 a5 : Option Addr) (e1 e2 e3 e4 e5 : Nat) (hs : s < 4294967296) (hm : m < 4294967296) (b1 o1 c1 b2 o2 c2 : Nat) (w : World) (hx : ∀ j, j < 13 → w.cell? ⟨b1, o1 + j, none⟩ = (smC k s m)[j]?) (hy : ∀ j, j < 13 → w.cell? ⟨b2, o2 + j, none⟩ = (smG k s m a1 a2 a3 a4 a5 e1 e2 e3 e4 e5)[j]?) :
    Calls Try.prog 40 #[.slice (some ⟨b1, o1, none⟩) 1 c1, .slice (some ⟨b2, o2, none⟩) 1 c2] w fun e w' => e = .returned (.bool true) ∧ BW w w' := by
  have cS := fun wz => Lib.hid (csame_sm k s m a1 a2 a3 a4 a5 e1 e2 e3 e4 e5 hs hm wz)
  have hX := Lib.hid hx
  have hY := Lib.hid hy
  clear hx hy hs hm
  go_enter Try.func40, Try.ntmps40
  go_upto_region 4 with (fail)
  go_loopg [5] 1 (fun m' a wx => ∃ j : Nat, m' = 1 - j ∧ j ≤ 1 ∧ a = .int .i64 (j : Nat) ∧ (j = 0 → wx = w) ∧ Hid (BW w wx))
  case atStart => exact ⟨0, rfl, by omega, rfl, fun _ => rfl, BW.refl _⟩
  case round =>
    obtain ⟨j, rfl, hj, rfl, hw0, B⟩ := hrel
    rcases (show j = 0 ∨ j = 1 by omega) with rfl | rfl
    · have hwe := hw0 rfl
      subst hwe
      clear hw0 B
      go_upto_region 6 with (fail)
      have l0 : ∀ y : LaterS [] wr, y.now.cell? ⟨b1, o1, none⟩ = some (.int .i64 k) := fun y => y.bw.cell ((hX.out 0 (by decide)).trans rfl)
      have l1 : ∀ y : LaterS [] wr, y.now.cell? ⟨b1, o1 + 1, none⟩ = some (.int .u32 (s : Nat)) := fun y => y.bw.cell ((hX.out 1 (by decide)).trans rfl)
      have l2 : ∀ y : LaterS [] wr, y.now.cell? ⟨b1, o1 + 2, none⟩ = some (.int .u32 (m : Nat)) := fun y => y.bw.cell ((hX.out 2 (by decide)).trans rfl)
      have l3 : ∀ y : LaterS [] wr, y.now.cell? ⟨b1, o1 + 3, none⟩ = some (.int .u64 0) := fun y => y.bw.cell ((hX.out 3 (by decide)).trans rfl)
      have l4 : ∀ y : LaterS [] wr, y.now.cell? ⟨b1, o1 + 4, none⟩ = some (.int .u32 0) := fun y => y.bw.cell ((hX.out 4 (by decide)).trans rfl)
      have l5 : ∀ y : LaterS [] wr, y.now.cell? ⟨b1, o1 + 5, none⟩ = some (.int .u32 0) := fun y => y.bw.cell ((hX.out 5 (by decide)).trans rfl)
      have l6 : ∀ y : LaterS [] wr, y.now.cell? ⟨b1, o1 + 6, none⟩ = some (.int .u32 0) := fun y => y.bw.cell ((hX.out 6 (by decide)).trans rfl)
      have l7 : ∀ y : LaterS [] wr, y.now.cell? ⟨b1, o1 + 7, none⟩ = some (.slice none 0 0) := fun y => y.bw.cell ((hX.out 7 (by decide)).trans rfl)
      have l8 : ∀ y : LaterS [] wr, y.now.cell? ⟨b1, o1 + 8, none⟩ = some (.slice none 0 0) := fun y => y.bw.cell ((hX.out 8 (by decide)).trans rfl)
      have l9 : ∀ y : LaterS [] wr, y.now.cell? ⟨b1, o1 + 9, none⟩ = some (.slice none 0 0) := fun y => y.bw.cell ((hX.out 9 (by decide)).trans rfl)
      have l10 : ∀ y : LaterS [] wr, y.now.cell? ⟨b1, o1 + 10, none⟩ = some (.slice none 0 0) := fun y => y.bw.cell ((hX.out 10 (by decide)).trans rfl)
      have l11 : ∀ y : LaterS [] wr, y.now.cell? ⟨b1, o1 + 11, none⟩ = some (.slice none 0 0) := fun y => y.bw.cell ((hX.out 11 (by decide)).trans rfl)
      have l12 : ∀ y : LaterS [] wr, y.now.cell? ⟨b1, o1 + 12, none⟩ = some (.int .u64 0) := fun y => y.bw.cell ((hX.out 12 (by decide)).trans rfl)
      have r0 : ∀ y : LaterS [] wr, y.now.cell? ⟨b2, o2, none⟩ = some (.int .i64 k) := fun y => y.bw.cell ((hY.out 0 (by decide)).trans rfl)
      have r1 : ∀ y : LaterS [] wr, y.now.cell? ⟨b2, o2 + 1, none⟩ = some (.int .u32 (s : Nat)) := fun y => y.bw.cell ((hY.out 1 (by decide)).trans rfl)
      have r2 : ∀ y : LaterS [] wr, y.now.cell? ⟨b2, o2 + 2, none⟩ = some (.int .u32 (m : Nat)) := fun y => y.bw.cell ((hY.out 2 (by decide)).trans rfl)
      have r3 : ∀ y : LaterS [] wr, y.now.cell? ⟨b2, o2 + 3, none⟩ = some (.int .u64 0) := fun y => y.bw.cell ((hY.out 3 (by decide)).trans rfl)
      have r4 : ∀ y : LaterS [] wr, y.now.cell? ⟨b2, o2 + 4, none⟩ = some (.int .u32 0) := fun y => y.bw.cell ((hY.out 4 (by decide)).trans rfl)
      have r5 : ∀ y : LaterS [] wr, y.now.cell? ⟨b2, o2 + 5, none⟩ = some (.int .u32 0) := fun y => y.bw.cell ((hY.out 5 (by decide)).trans rfl)
      have r6 : ∀ y : LaterS [] wr, y.now.cell? ⟨b2, o2 + 6, none⟩ = some (.int .u32 0) := fun y => y.bw.cell ((hY.out 6 (by decide)).trans rfl)
      have r7 : ∀ y : LaterS [] wr, y.now.cell? ⟨b2, o2 + 7, none⟩ = some (.slice a1 0 e1) := fun y => y.bw.cell ((hY.out 7 (by decide)).trans rfl)
      have r8 : ∀ y : LaterS [] wr, y.now.cell? ⟨b2, o2 + 8, none⟩ = some (.slice a2 0 e2) := fun y => y.bw.cell ((hY.out 8 (by decide)).trans rfl)
      have r9 : ∀ y : LaterS [] wr, y.now.cell? ⟨b2, o2 + 9, none⟩ = some (.slice a3 0 e3) := fun y => y.bw.cell ((hY.out 9 (by decide)).trans rfl)
      have r10 : ∀ y : LaterS [] wr, y.now.cell? ⟨b2, o2 + 10, none⟩ = some (.slice a4 0 e4) := fun y => y.bw.cell ((hY.out 10 (by decide)).trans rfl)
      have r11 : ∀ y : LaterS [] wr, y.now.cell? ⟨b2, o2 + 11, none⟩ = some (.slice a5 0 e5) := fun y => y.bw.cell ((hY.out 11 (by decide)).trans rfl)
      have r12 : ∀ y : LaterS [] wr, y.now.cell? ⟨b2, o2 + 12, none⟩ = some (.int .u64 0) := fun y => y.bw.cell ((hY.out 12 (by decide)).trans rfl)
      refine wp_region_gg [] [] [8] (by kernel_rfl) ?_
      refine hoist [] [] (a1 := ?_) 0 rfl (by kernel_rfl) (.inl ⟨rfl, rfl⟩) rfl rfl rfl (fun x K hK => ?_) ?_
      rotate_left
      · go_big_quiet_op
        exact hK
      refine hoist [] [] (a1 := ?_) 1 rfl (by kernel_rfl) (.inl ⟨rfl, rfl⟩) rfl rfl rfl (fun x K hK => ?_) ?_
      rotate_left
      · go_big_quiet_op
        exact hK
      refine hoist [] [] (a1 := ?_) 2 rfl (by kernel_rfl) (.inl ⟨rfl, rfl⟩) rfl rfl rfl (fun x K hK => ?_) ?_
      rotate_left
      · go_big_quiet_op
        exact hK
      refine hoist [] [] (a1 := ?_) 3 rfl (by kernel_rfl) (.inl ⟨rfl, rfl⟩) rfl rfl rfl (fun x K hK => ?_) ?_
      rotate_left
      · go_big_quiet_op
        exact hK
      refine hoist [] [] (a1 := ?_) 4 rfl (by kernel_rfl) (.inl ⟨rfl, rfl⟩) rfl rfl rfl (fun x K hK => ?_) ?_
      rotate_left
      · go_big_quiet_op
        exact hK
      refine hoist [] [] (a1 := ?_) 5 rfl (by kernel_rfl) (.inl ⟨rfl, rfl⟩) rfl rfl rfl (fun x K hK => ?_) ?_
      rotate_left
      · go_big_quiet_op
        exact hK
      refine hoist [] [] (a1 := ?_) 6 rfl (by kernel_rfl) (.inl ⟨rfl, rfl⟩) rfl rfl rfl (fun x K hK => ?_) ?_
      rotate_left
      · go_big_quiet_op
        exact hK
      refine hoist [] [] (a1 := ?_) 7 rfl (by kernel_rfl) (.inl ⟨rfl, rfl⟩) rfl rfl rfl (fun x K hK => ?_) ?_
      rotate_left
      · go_big_quiet_op
        exact hK
      refine tail 8 rfl (by kernel_rfl) rfl (fun xr => ?_)
      simp only [List.drop_succ_cons, List.drop_zero]
      have B1 := Lib.hid xr.bw
      clear l0 r0 l1 r1 l2 r2 l3 r3 l4 r4 l5 r5 l6 r6 l7 r7 l8 r8 l9 r9 l10 r10 l11 r11 l12 r12
      generalize xr.now = w1 at *
      go_wp2_with fail
      refine Calls.mono (cS w1).out ?_
      rintro e w2 ⟨rfl, hb⟩
      have B2 := Lib.hid (B1.out.trans hb)
      clear hb B1
      dsimp only
      go_wp2_with fail
      go_roundg 0
      case measure => omega
      case rel => exact ⟨1, rfl, by omega, rfl, fun h => by omega, B2⟩
    · clear hw0
      go_wp2_with fail
      go_ret
      exact ⟨rfl, B.out⟩
end Go.Proofs.Ytikmhlbpefednaa
