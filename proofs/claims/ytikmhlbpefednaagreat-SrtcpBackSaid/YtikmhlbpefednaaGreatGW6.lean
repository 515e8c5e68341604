/- What every walk wants: the kit's modules, and small laws on blocks of memory. math/bits.RotateLeft32 by the counts that are used. No condition but these. octets.Num and octets.Put. No condition but the sizes'. append of bytes onto a slice of the call's own: the walk's step. No condition but the sizes'. Bytes as a string: string(b). No condition. octets.Same; a string of bytes. No condition. -/
import Derived.Test.YtikmhlbpefednaaGreatRows
import Derived.Test.YtikmhlbpefednaaGreatGBa
import Derived.Test.YtikmhlbpefednaaGreatGKi
import Derived.WalkKit
import Derived.WalkSpells
import Derived.WalkLawsBesides
import Derived.Deep.LoopGhost
import Derived.Deep.DeepCutAuto
import Derived.Deep.MidRow
import Derived.Laws.BitsAllLaws
import Derived.Laws.Rows
import Derived.Laws.ResultCell
import Derived.Deep.WholeRow
import Derived.OwnWalk
import Derived.IntWalk
import Derived.Laws.BytesArg
namespace Go.Proofs.YtikmhlbpefednaaGreat
open Go.RowKit
theorem hp_new (w : World) (o : Obj) (n : Nat) (h : n = w.heap.size) : (w.alloc o).heap[n]? = some o := by subst h; exact heap_alloc_new w o
theorem hp_old (w : World) (o : Obj) (n : Nat) (h : n < w.heap.size) : (w.alloc o).heap[n]? = w.heap[n]? := Below.heap_alloc w o n h
theorem hp_lt {w : World} {b : Nat} {o : Obj} (h : w.heap[b]? = some o) : b < w.heap.size := (Array.getElem?_eq_some_iff.1 h).1
theorem hp_keep {w : World} {b : Nat} {o : Obj} (h : w.heap[b]? = some o) (o' : Obj) : (w.alloc o').heap[b]? = some o := (hp_old w o' b (hp_lt h)).trans h
theorem hp_cell {w : World} {b : Nat} {c : Array Value} {t : TypeId} {f : Nat × Nat} (h : w.heap[b]? = some (.cells c t f)) (i : Nat) : w.cell? ⟨b, i, none⟩ = c[i]? := by simp [World.cell?, h]
theorem hp_frz {w : World} {b : Nat} {c : Array Value} {t : TypeId} (h : w.heap[b]? = some (.cells c t (0, 0))) (i : Nat) : w.frozen? ⟨b, i, none⟩ = false := by simp [World.frozen?, h]
theorem hp_set {w : World} {b : Nat} {c : Array Value} {t : TypeId} {f : Nat × Nat} (h : w.heap[b]? = some (.cells c t f)) (i : Nat) (u : Value) : (w.setCell ⟨b, i, none⟩ u).heap[b]? = some (.cells (c.setIfInBounds i u) t f) := by
 simp [World.setCell, Array.getElem?_modify, h]
theorem hp_oth {w : World} {b k i : Nat} {v : Value} (h : k ≠ b) : (w.setCell ⟨b, i, none⟩ v).heap[k]? = w.heap[k]? := Below.heap_setCell _ _ _ _ h
theorem hp_ne {w : World} {a b : Nat} {c1 c2 : Array Value} {t1 t2 : TypeId} {f1 f2 : Nat × Nat} (h1 : w.heap[a]? = some (.cells c1 t1 f1)) (h2 : w.heap[b]? = some (.cells c2 t2 f2)) (ht : t1 ≠ t2) : a ≠ b := fun e => by
 subst e; rw [h1] at h2; cases h2; exact ht rfl
theorem hp_bel {B : Nat} {w w' : World} (h : Below B w w') {b : Nat} {o : Obj} (hb : w.heap[b]? = some o) (hB : b < B) : w'.heap[b]? = some o := by rw [h.block b hB]; exact hb
theorem hp_st {S : List Nat} {w w' : World} (h : Still S w w') {b : Nat} {o : Obj} (hb : w.heap[b]? = some o) (hs : b ∉ S) : w'.heap[b]? = some o := by
 rw [h.block b (hp_lt hb) hs]; exact hb
theorem hp_row {w : World} {g : Nat} {old : Array Value} {t : TypeId} {f : Nat × Nat} (h : w.heap[g]? = some (.cells old t f)) (cs : Array Value) : (w.setRow g cs).heap[g]? = some (.cells cs t f) := setRow_get w g cs old t f h
theorem hp_rowo {w : World} {g k : Nat} (cs : Array Value) (h : k ≠ g) : (w.setRow g cs).heap[k]? = w.heap[k]? := by
 simp only [World.setRow, Array.getElem?_modify]
 rw [if_neg (fun e => h e.symm)]
theorem iv_cell {w : World} {g : Nat} {k : IntKind} {l : List Nat} {t : TypeId} {f : Nat × Nat} (h : w.heap[g]? = some (.cells (ivA k l) t f)) (i : Nat) (hi : i < l.length) : w.cell? ⟨g, i, none⟩ = some (.int k (l.getD i 0 : Nat)) := by
 rw [hp_cell h, ivA_get k l i hi]
theorem iv_set {w : World} {g : Nat} {k : IntKind} {l : List Nat} {t : TypeId} {f : Nat × Nat} (h : w.heap[g]? = some (.cells (ivA k l) t f)) (i x : Nat) : (w.setCell ⟨g, i, none⟩ (.int k (x : Nat))).heap[g]? = some (.cells (ivA k (l.set i x)) t f) := by
 rw [hp_set h, ivA_set]
theorem wpList_store_new {P : Program} {ops : Array Oper} {rest : List Oper} {o : Oper} {a : Act} {w : World} {Q : Exit → Act → World → Prop} (hgd : o.guard = none) (T : TypeId) (x y : Operand) (ho : o.op = .store T x y) (Z c : Array Value) (t : TypeId)
  (hx : a.eval x = .pointer (some ⟨w.heap.size, 0, none⟩)) (hy : a.eval y = .agg c) (hi : (P.info? T).map (·.size) = some c.size) (hZ : Z.size = c.size) (h1 : c.all (·.oneCell') = true)
  (h : wpList P ops Q rest (a.put o.dst undef) (w.alloc (.cells c t))) : wpList P ops Q (o :: rest) a (w.alloc (.cells Z t)) := by
 refine wpList_store_row hgd T x y ho w.heap.size c hx hy t Z (hp_new w _ _ rfl) hi hZ h1 ?_
 rw [World.setRow_alloc_new]; exact h
theorem run_index_iv {P : Program} (T e : TypeId) (n : Nat) (k : IntKind) (l : List Nat) (hT : P.underlying T = some (.array n e)) (he : P.underlying e = some (.int k)) (hs : (P.info? e).map (·.size) = some 1) (hl : l.length = n) (i : Nat) (hi : i < n) (w : World) :
  (Instr.index T (.agg (ivA k l)) (.int .i64 (i : Nat))).run P w = .ok (.int k (l.getD i 0 : Nat)) w := by
 have hsz : (sizeOf e).run P w = .ok 1 w := by
  cases hq : P.info? e with
  | none => simp [hq] at hs
  | some i => simp [hq] at hs; simp [sizeOf, typeInfo, hq, hs]
 have h1 : (0 : Int) ≤ (i : Nat) ∧ ((i : Nat) : Int) < (n : Int) := ⟨by omega, by omega⟩
 have hp := run_part_int w e k l he i (by omega)
 have hg : l.getD i 0 = l[i]'(by omega) := by simp [List.getD_eq_getElem?_getD, List.getElem?_eq_getElem (show i < l.length by omega)]
 unfold Instr.index
 simp only [Sem.run_bind, asIntOf, Sem.run_pure, Result.andThen_ok, run_underlying hT, if_pos h1, hsz, Int.toNat_natCast, Nat.mul_one, hp, hg]
theorem in_toList {v : Value} {g : Nat} (h : g ∈ v.ownBlock.toList) : v.ownBlock = some g := by simpa [Option.mem_toList] using h
theorem info_u8 : (Tryz.prog.info? 5).map (·.size) = some 1 := by kernel_rfl
theorem slU8 : SlTy Tryz.prog 35 5 1 1 := SlTy.mk' Tryz.underlying35 (by kernel_rfl) (by decide)
end Go.Proofs.YtikmhlbpefednaaGreat

namespace Go.Proofs.YtikmhlbpefednaaGreat
open Go.RowKit
set_option maxHeartbeats 1000000 in
theorem rol_any (x n : Nat) (hx : x < 4294967296) (hn : n = 1 ∨ n = 5 ∨ n = 30) (w : World) :
  Calls Tryz.prog 158 #[.int .u32 (x : Nat), .int .i64 (n : Nat)] w fun e w' => e = .returned (.int .u32 (rol x n : Nat)) ∧ w = w' := by
 have key : ∀ m : Nat, 1 ≤ m → m ≤ 31 → bits .or .u32 ((x : Int) * ((2 ^ m : Nat) : Int) % 4294967296) ((x : Int) / ((2 ^ (32 - m) : Nat) : Int)) = (rol x m : Nat) := by
  intro m h1 h2
  have e1 : ((x : Int) * ((2 ^ m : Nat) : Int) % 4294967296) = ((x * 2 ^ m % 4294967296 : Nat) : Int) := by simp
  have e2 : ((x : Int) / ((2 ^ (32 - m) : Nat) : Int)) = ((x / 2 ^ (32 - m) : Nat) : Int) := by simp
  rw [e1, e2, u32_or_nat _ _ (by omega) (Nat.lt_of_le_of_lt (Nat.div_le_self _ _) hx)]
  unfold rol
  rw [Nat.shiftLeft_eq, Nat.shiftRight_eq_div_pow]
 have k1 := key 1 (by omega) (by omega)
 have k2 := key 5 (by omega) (by omega)
 have k3 := key 30 (by omega) (by omega)
 simp only [Nat.reducePow, Nat.reduceSub] at k1 k2 k3
 clear key
 have n1 : bits .and .u64 1 31 = 1 := by decide
 have n2 : bits .and .u64 5 31 = 5 := by decide
 have n3 : bits .and .u64 30 31 = 30 := by decide
 have hq2 : (x : Int) ≤ 4294967295 := by omega
 obtain rfl | rfl | rfl := hn
 all_goals
  go_enter Tryz.func158, Tryz.ntmps158
  go_wp2
 all_goals go_ret
 all_goals exact ⟨congrArg (fun x => Ending.returned (.int .u32 x)) (by first | exact k1 | exact k2 | exact k3), rfl⟩
end Go.Proofs.YtikmhlbpefednaaGreat

namespace Go.Proofs.YtikmhlbpefednaaGreat
open Go.RowKit
theorem or_byte (x c : Nat) (hc : c < 256) : (x * 256) ||| c = x * 256 + c := by
 have := Nat.two_pow_add_eq_or_of_lt (i := 8) (b := c) hc x
 rw [Nat.mul_comm x 256]
 exact this.symm
set_option maxRecDepth 100000 in
set_option maxHeartbeats 2000000 in
theorem num_ok (v : Value) (len : Nat) (l : List Nat) (at_ n : Nat) (a b : Int) (hn1 : 1 ≤ n) (hn8 : n ≤ 8) (hat : at_ + n ≤ len) (ha : a = at_) (hb : b = n) (w : World) (hv : SB w v len l) :
  Calls Tryz.prog 57 #[v, .int .i64 a, .int .i64 b] w fun e w' => e = .returned (.tuple #[.int .u64 (numB ((l.drop at_).take n) : Nat), .bool true]) ∧ w = w' := by
 subst ha
 subst hb
 obtain ⟨g, o, cap, rfl, hc, hm, hg, hcell⟩ := hv.form (by omega)
 have hby := Lib.hid hv.2.1
 have hll := Lib.hid hv.1
 unfold maxLen at hm
 replace hcell := Lib.hid hcell
 clear hv
 go_enter Tryz.func57, Tryz.ntmps57
 go_wp2_with fail
 go_loop [8, 42] (fun x i => ∃ k : Nat, k ≤ n ∧ i = .int .i64 (k : Nat) ∧ x = .int .u64 (numB ((l.drop at_).take k) : Nat)) (fun _ i => (n - intOf i).toNat)
 case atStart => exact ⟨0, by omega, rfl, rfl⟩
 case round =>
  obtain ⟨k, hk, rfl, rfl⟩ := hrel
  by_cases hkn : k < n
  ·have hc1 := hcell.out (at_ + k) (by omega)
   rw [← Nat.add_assoc] at hc1
   have hlt : numB ((l.drop at_).take k) < 72057594037927936 := by
    have h1 := numB_lt ((l.drop at_).take k) (fun x hx => hby.out x (List.mem_of_mem_drop (List.mem_of_mem_take hx)))
    have h2 : ((l.drop at_).take k).length ≤ 7 := by rw [List.length_take]; omega
    have h3 : 256 ^ ((l.drop at_).take k).length ≤ 256 ^ 7 := Nat.pow_le_pow_right (by omega) h2
    omega
   have hy := ByL.get hby.out (at_ + k)
   have hnx : Hid (numB ((l.drop at_).take (k + 1)) = numB ((l.drop at_).take k) * 256 + l.getD (at_ + k) 0) := by
    rw [Hid, List.take_succ_eq_append_getElem (by rw [List.length_drop, hll.out]; omega), numB_snoc]
    simp [List.getD_eq_getElem?_getD, List.getElem?_eq_getElem (show at_ + k < l.length by rw [hll.out]; omega)]
   have hor : bits .or .u64 ((numB ((l.drop at_).take k) : Nat) * 256 : Int) (l.getD (at_ + k) 0 : Nat) = (numB ((l.drop at_).take k) * 256 + l.getD (at_ + k) 0 : Nat) := by
    have := u64_or_nat (numB ((l.drop at_).take k) * 256) (l.getD (at_ + k) 0) (by omega) (by omega)
    rw [or_byte _ _ hy] at this
    rw [← this]; push_cast; rfl
   generalize numB ((l.drop at_).take k) = x at *
   generalize l.getD (at_ + k) 0 = y at *
   go_wp2_with fail
   go_round
   case rel => exact ⟨k + 1, by omega, by go_num, by rw [hnx.out]; push_cast; rfl⟩
   case measure => simp [intOf]; omega
  ·obtain rfl : k = n := by omega
   go_wp2_with fail
   go_ret2
   exact ⟨rfl, rfl⟩
theorem putB_take (n x k : Nat) (hk : k < n) : (putB n x).take (k + 1) = (putB n x).take k ++ [x / 256 ^ (n - 1 - k) % 256] := by
 rw [List.take_succ_eq_append_getElem (by rw [putB_len]; exact hk)]
 simp [putB]
theorem putB_all (n x : Nat) : (putB n x).take n = putB n x := List.take_of_length_le (by rw [putB_len]; exact Nat.le_refl _)
set_option maxRecDepth 100000 in
set_option maxHeartbeats 4000000 in
theorem put_ok (v : Value) (len : Nat) (l : List Nat) (n x : Nat) (b : Int) (hn1 : 1 ≤ n) (hn8 : n ≤ 8) (hb : b = n) (hx : x < 18446744073709551616) (hlen : len ≤ 1000000000000) (w : World) (hv : SB w v len l) :
  Calls Tryz.prog 56 #[v, .int .i64 b, .int .u64 (x : Nat)] w fun e w' => ∃ v', e = .returned v' ∧ OB w' w.heap.size 5 v' (len + n) (l ++ putB n x) ∧ Below w.heap.size w w' := by
 subst hb
 obtain ⟨sa, cap, rfl, hc, hm⟩ := hv.len
 unfold maxLen at hm
 have hv0 : Hid (SB w (.slice sa len len) len l) := by
  obtain ⟨h1, h2, h3, h4, h5⟩ := hv
  refine ⟨h1, h2, h3, h4, ?_⟩
  rcases h5 with ⟨rfl, sa', cp, he, h6, h7⟩ | ⟨g, o, cp, he, h6, h7, h8, h9⟩
  ·cases he; exact .inl ⟨rfl, sa, 0, rfl, fun _ => rfl, by decide⟩
  ·cases he; exact .inr ⟨g, o, len, rfl, Nat.le_refl _, h4, h8, h9⟩
 replace hv := Lib.hid hv
 go_enter Tryz.func56, Tryz.ntmps56
 go_wp2_with fail
 go_loopg [7, 23] n (fun m o i wx => ∃ k, m = n - k ∧ k ≤ n ∧ i = .int .i64 (k : Nat) ∧ Hid (Below w.heap.size w wx) ∧ (k = 0 ∧ o = .slice sa len len ∨ 0 < k ∧ Hid (OB wx w.heap.size 5 o (len + k) (l ++ (putB n x).take k))))
 case atStart => exact ⟨0, by omega, by omega, rfl, Below.refl _ _, .inl ⟨rfl, rfl⟩⟩
 case round =>
  obtain ⟨k, rfl, hk, rfl, L, ho⟩ := hrel
  by_cases hkn : k < n
  ·have hy : x / 256 ^ (n - 1 - k) % 256 < 256 := Nat.mod_lt _ (by decide)
   have hval : (x : Int) / 2 ^ (8 * (n - 1 - k)) % 256 = ((x / 256 ^ (n - 1 - k) % 256 : Nat) : Int) := by
    rw [show 256 ^ (n - 1 - k) = 2 ^ (8 * (n - 1 - k)) by rw [show 256 = 2 ^ 8 from rfl, ← Nat.pow_mul]]; simp
   have hsn := Lib.hid (putB_take n x k hkn)
   have hpl : Hid (((putB n x).take k).length = k) := by rw [Hid, List.length_take, putB_len]; omega
   have hpb : Hid (ByL ((putB n x).take k)) := ByL.take (putB_byt n x) k
   generalize x / 256 ^ (n - 1 - k) % 256 = y at *
   rcases ho with ⟨rfl, rfl⟩ | ⟨hk0, O⟩
   ·rw [Nat.sub_zero] at hval
    go_wp2_with (at_builtin; go_must (refine wpList_apf slU8 rfl 35 _ _ rfl w.heap.size sa len (bvs l) rfl ((hv0.out.below L.out (Nat.le_refl _)).alloc _).2.2 _ rfl 1 (bvs [y]) (OB.sb_app Tryz.underlying35 (SB.new1 wr _ y hy)) (by omega) (by omega) (by have := L.out.size; simp; omega) ?_; intro v' w' h1 h2; have L2 := Lib.hid ((L.out.alloc L.out.size (.cells #[.int .u8 (y : Nat)] 5)).trans ((grown_none h2).mono (by have := L.out.size; simp; omega))); replace h1 := Lib.hid (OB.of_app h1 hv0.out.1 rfl hv0.out.2.1 (by intro z hz; simp at hz; omega)); clear h2))
    go_roundg (n - (0 + 1))
    case measure => omega
    case rel => exact ⟨0 + 1, rfl, by omega, rfl, L2, .inr ⟨by omega, by rw [hsn.out]; exact h1⟩⟩
   ·go_wp2_with (at_builtin; go_must (refine wpList_aps slU8 rfl 35 _ _ rfl w.heap.size _ (len + k) (bvs (l ++ (putB n x).take k)) rfl (O.out.alloc _).2.2 _ rfl 1 (bvs [y]) (OB.sb_app Tryz.underlying35 (SB.new1 wr _ y hy)) (by omega) (by have := L.out.size; simp; omega) ?_; intro v' w' h1 h2 h3; clear h3; have L2 := Lib.hid ((L.out.alloc L.out.size (.cells #[.int .u8 (y : Nat)] 5)).trans (Ows.grown (by have := L.out.size; simp; omega) (Nat.le_refl _) (O.out.alloc _).2.2 h2)); replace h1 := Lib.hid (OB.of_app h1 (by rw [List.length_append, hv0.out.1, hpl.out]) rfl (hv0.out.2.1.append hpb.out) (by intro z hz; simp at hz; omega)); clear h2))
    go_roundg (n - (k + 1))
    case measure => omega
    case rel => exact ⟨k + 1, rfl, by omega, by go_num, L2, .inr ⟨by omega, by rw [hsn.out, ← List.append_assoc]; exact h1⟩⟩
  ·obtain rfl : k = n := by omega
   rcases ho with ⟨h0, _⟩ | ⟨hk0, O⟩
   ·omega
   ·go_wp2_with fail
    go_ret
    exact ⟨_, rfl, by rw [← putB_all k x]; exact O.out, L.out⟩
end Go.Proofs.YtikmhlbpefednaaGreat

namespace Go.Proofs.YtikmhlbpefednaaGreat
open Go.RowKit
theorem wp_apOB {o : Oper} {a : Act} {w : World} {K : Act → World → Prop} {Q : Exit → Act → World → Prop} (s x : Operand)
  (ho : o.op = .call { callee := .builtin .append, args := #[s, x], argTypes := #[35, 35] }) (base : Nat) (v : Value) (n : Nat) (l : List Nat) (hs : a.eval s = v) (hown : OB w base 5 v n l) (xv : Value) (hx : a.eval x = xv) (m : Nat) (k : List Nat) (hk : SB w xv m k)
  (hsz : n + m ≤ 1000000000000) (hbase : base ≤ w.heap.size)
  (h : ∀ sa cap w', n + m ≤ cap → cap ≤ maxLen → OB w' base 5 (.slice sa (n + m) cap) (n + m) (l ++ k) → Still v.ownBlock.toList w w' → Below base w w' → (∀ j, (Value.slice sa (n + m) cap).ownBlock = some j → v.ownBlock = some j ∨ w.heap.size ≤ j) → K (a.put o.dst (.slice sa (n + m) cap)) w') : o.wp Tryz.prog a w K Q := by
 refine wp_aps slU8 35 s x ho base v n (bvs l) hs hown.2.2 xv hx m (bvs k) (OB.sb_app Tryz.underlying35 hk) (by omega) hbase fun v' w' h1 h2 h3 => ?_
 have h4 := OB.of_app h1 hown.1 hk.1 hown.2.1 hk.2.1
 obtain ⟨sa, cap, rfl, hc, hm⟩ := h4.len
 exact h sa cap w' hc hm h4 (Still.of_row h2) (Ows.grown hbase (Nat.le_refl _) hown.2.2 h2) h3
theorem wpList_apOB {ops : Array Oper} {rest : List Oper} {o : Oper} {a : Act} {w : World} {Q : Exit → Act → World → Prop} (hgd : o.guard = none) (s x : Operand)
  (ho : o.op = .call { callee := .builtin .append, args := #[s, x], argTypes := #[35, 35] }) (base : Nat) (v : Value) (n : Nat) (l : List Nat) (hs : a.eval s = v) (hown : OB w base 5 v n l) (xv : Value) (hx : a.eval x = xv) (m : Nat) (k : List Nat) (hk : SB w xv m k)
  (hsz : n + m ≤ 1000000000000) (hbase : base ≤ w.heap.size)
  (h : ∀ sa cap w', n + m ≤ cap → cap ≤ maxLen → OB w' base 5 (.slice sa (n + m) cap) (n + m) (l ++ k) → Still v.ownBlock.toList w w' → Below base w w' → (∀ j, (Value.slice sa (n + m) cap).ownBlock = some j → v.ownBlock = some j ∨ w.heap.size ≤ j) → wpList Tryz.prog ops Q rest (a.put o.dst (.slice sa (n + m) cap)) w') : wpList Tryz.prog ops Q (o :: rest) a w :=
 wpList_plain hgd fun _ hK => wp_apOB s x ho base v n l hs hown xv hx m k hk hsz hbase fun sa cap w' k1 k2 k3 k4 k5 k6 => hK _ _ (h sa cap w' k1 k2 k3 k4 k5 k6)
theorem OB.new (w : World) (base : Nat) (l : List Nat) (n : Nat) (hb : base ≤ w.heap.size) (hl : l.length = n) (hn : n ≤ maxLen) (hby : ByL l) : OB (w.alloc (.cells (ivA .u8 l) 5)) base 5 (.slice (some ⟨w.heap.size, 0, none⟩) n n) n l :=
 ⟨hl, hby, Ows.new w base _ 1 _ _ n hb (by rw [bvs_len]; omega) hn (by simp [ivA, bvs])⟩
theorem OB.new0 (w : World) (base : Nat) (hb : base ≤ w.heap.size) : OB (w.alloc (.cells #[] 5)) base 5 (.slice (some ⟨w.heap.size, 0, none⟩) 0 0) 0 [] := OB.new w base [] 0 hb rfl (by decide) (by simp [ByL])
theorem OB.notin {w : World} {base : Nat} {E : TypeId} {v : Value} {n : Nat} {l : List Nat} (h : OB w base E v n l) {b : Nat} {cs : Array Value} {t : TypeId} {fr : Nat × Nat} (hb : w.heap[b]? = some (.cells cs t fr)) (ht : t ≠ E) : b ∉ v.ownBlock.toList := h.2.2.notin hb ht
end Go.Proofs.YtikmhlbpefednaaGreat

namespace Go.Proofs.YtikmhlbpefednaaGreat
open Go.RowKit
def bstr (l : List Nat) : ByteArray := strOfNums (l.map fun (n : Nat) => (n : Int))
theorem conv_sb {w : World} {v : Value} {n : Nat} {l : List Nat} (h : SB w v n l) : (convert 35 9 v).run Tryz.prog w = .ok (.string (bstr l)) w := by
 obtain ⟨h1, h2, h3, h4, ⟨h5, sa, cp, rfl, h6, h7⟩ | ⟨b, o, cap, rfl, hn, hc, hlt, hcell⟩⟩ := h
 ·subst h5
  have : l = [] := List.eq_nil_of_length_eq_zero h1
  subst this
  rw [run_convert_bytes_string w 35 9 5 sa 0 cp Tryz.underlying35 Tryz.underlying5 Tryz.underlying9]
  cases sa with
  | none => simp [Conv.bytesToString, bstr, strOfNums]; rfl
  | some a => simp [Conv.bytesToString, bstr, strOfNums, loadCells, loadCellsFrom]; rfl
 ·refine run_convert_bytes_arg w 35 5 Tryz.underlying35 Tryz.underlying5 b o n cap (l.map fun (n : Nat) => (n : Int)) (by simpa using h1) (fun i hi => ?_) 9 Tryz.underlying9
  rw [hcell i (by omega), bvs_get _ _ (by omega)]
  simp [List.getD_eq_getElem?_getD, List.getElem?_eq_getElem (show i < l.length by omega)]
end Go.Proofs.YtikmhlbpefednaaGreat

namespace Go.Proofs.YtikmhlbpefednaaGreat
open Go.RowKit
def dif (a b : List Nat) : Nat → Nat
 | 0 => 0
 | k + 1 => dif a b k ||| (a.getD k 0 ^^^ b.getD k 0)
theorem dif_lt (a b : List Nat) (ha : ByL a) (hb : ByL b) : ∀ k, dif a b k < 256
 | 0 => (by decide : 0 < 256)
 | k + 1 => Nat.or_lt_two_pow (n := 8) (dif_lt a b ha hb k) (Nat.xor_lt_two_pow (n := 8) (ha.get k) (hb.get k))
theorem dif_zero (a b : List Nat) : ∀ k, dif a b k = 0 ↔ ∀ i, i < k → a.getD i 0 = b.getD i 0
 | 0 => by simp [dif]
 | k + 1 => by
  have hx : ∀ x y : Nat, x ^^^ y = 0 ↔ x = y := fun x y => by
   constructor
   ·intro h
    have := congrArg (fun z => z ^^^ y) h
    simpa [Nat.xor_assoc] using this
   ·rintro rfl; simp
  rw [dif, Nat.or_eq_zero_iff, dif_zero a b k, hx]
  constructor
  ·intro ⟨h1, h2⟩ i hi
   rcases Nat.lt_or_ge i k with h | h
   ·exact h1 i h
   ·obtain rfl : i = k := by omega
    exact h2
  ·intro h; exact ⟨fun i hi => h i (by omega), h k (by omega)⟩
theorem dif_eq (a b : List Nat) (n : Nat) (ha : a.length = n) (hb : b.length = n) : dif a b n = 0 ↔ a = b := by
 rw [dif_zero]
 constructor
 ·intro h
  refine List.ext_getElem (by omega) fun i h1 h2 => ?_
  have := h i (by omega)
  simpa [List.getD_eq_getElem?_getD, List.getElem?_eq_getElem h1, List.getElem?_eq_getElem h2] using this
 ·rintro rfl; exact fun _ _ => rfl
set_option maxRecDepth 100000 in
set_option maxHeartbeats 8000000 in
theorem same_ok (va vb : Value) (na nb : Nat) (a b : List Nat) (w : World) (ha : SB w va na a) (hb : SB w vb nb b) :
  Calls Tryz.prog 40 #[va, vb] w fun e w' => e = .returned (.bool (decide (a = b))) ∧ Below w.heap.size w w' := by
 obtain ⟨sa, ca, rfl, _, _⟩ := ha.len
 obtain ⟨sb, cb, rfl, _, _⟩ := hb.len
 obtain ⟨la1, la2, la3, la4⟩ := ha.unpack
 obtain ⟨lb1, lb2, lb3, lb4⟩ := hb.unpack
 replace ha := Lib.hid ha
 replace hb := Lib.hid hb
 replace la3 := Lib.hid la3
 replace lb3 := Lib.hid lb3
 replace la4 := Lib.hid la4
 replace lb4 := Lib.hid lb4
 by_cases hn : na = nb
 ·subst hn
  have hne : ((na : Int) != na) = false := by simp
  have h0 : (((dif a b na : Nat) : Int) == 0) = decide (a = b) := by
   rw [Bool.eq_iff_iff]
   simp only [beq_iff_eq, decide_eq_true_eq]
   rw [← dif_eq a b na la3.out lb3.out]; omega
  generalize decide (a = b) = q at *
  replace h0 := Lib.hid h0
  go_enter Tryz.func40, Tryz.ntmps40
  go_wp2_with fail
  go_loopg [5, 14] na (fun m' d i wx => ∃ k : Nat, m' = na - k ∧ k ≤ na ∧ i = .int .i64 k ∧ d = .int .u8 (dif a b k : Nat) ∧ Hid (BW w wx))
  case atStart => exact ⟨0, by omega, by omega, rfl, rfl, BW.refl _⟩
  case round =>
   obtain ⟨k, rfl, hk, rfl, rfl, B⟩ := hrel
   by_cases hkn : k < na
   ·obtain ⟨b1, o1, c1, he, _, _, _, hc1⟩ := (ha.out.bw B.out).form (by omega)
    cases he
    obtain ⟨b2, o2, c2, he, _, _, _, hc2⟩ := (hb.out.bw B.out).form (by omega)
    cases he
    have d1 := hc1 k hkn
    have d2 := hc2 k hkn
    have hs : dif a b (k + 1) = dif a b k ||| (a.getD k 0 ^^^ b.getD k 0) := rfl
    have hz := dif_lt a b la4.out lb4.out k
    have hx := la4.out.get k
    have hy := lb4.out.get k
    generalize a.getD k 0 = x at *
    generalize b.getD k 0 = y at *
    generalize dif a b k = z at *
    have e1 := u8_xor_nat x y hx hy
    have e2 := u8_or_nat z (x ^^^ y) hz (Nat.xor_lt_two_pow (n := 8) hx hy)
    clear hc1 hc2 ha hb
    replace hs := Lib.hid hs
    have q1 : (0 : Int) ≤ (k : Int) := by omega
    have q2 : (k : Int) < (na : Int) := by omega
    go_wp2
    go_quiet (fail)
    have B2 := Lib.hid (B.out.drewN (k := nq))
    go_wp2
    go_roundg (na - (k + 1))
    case measure => omega
    case rel => exact ⟨k + 1, rfl, by omega, by go_num, by rw [hs.out], B2⟩
   ·obtain rfl : k = na := by omega
    replace h0 := h0.out
    generalize dif a b k = z at *
    go_wp2
    go_ret
    exact ⟨rfl, B.out⟩
 ·have hab : decide (a = b) = false := by
   rw [decide_eq_false_iff_not]
   rintro rfl
   exact hn (la3.out.symm.trans lb3.out)
  have hne : ((na : Int) != nb) = true := by rw [bne_iff_ne]; omega
  rw [hab]
  clear hab
  go_enter Tryz.func40, Tryz.ntmps40
  go_wp2_with fail
  go_ret
  exact ⟨rfl, BW.refl _⟩
end Go.Proofs.YtikmhlbpefednaaGreat
