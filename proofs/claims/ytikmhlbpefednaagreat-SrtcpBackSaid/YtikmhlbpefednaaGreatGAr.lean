/- Arrays of bytes as variables: made, read whole, written whole, handed back. No condition. Arrays of sixteen bytes. No condition. Pieces of blocks of bytes: read out of the middle, written into it, copied into it. No condition. -/
import Derived.Test.YtikmhlbpefednaaGreatGW6
import Derived.Test.YtikmhlbpefednaaGreatGKi
import Derived.Deep.OwnRows
import Derived.Laws.CopyOwn
import Derived.Laws.CopyRow
import Derived.Deep.MidRow
import Derived.BigFrame
namespace Go.Proofs.YtikmhlbpefednaaGreat
open Go.RowKit
structure ArT (T : TypeId) (n : Nat) : Prop where
 hu : ∃ d, Tryz.prog.underlying T = some d ∧ (match d with | .struct _ | .array _ _ => true | _ => false) = true ∧ d.isRow = true
 hi : (Tryz.prog.info? T).map (·.size) = some n
 hz : ∀ w, (zeroValue T).run Tryz.prog w = .ok (.agg (ivA .u8 (zeros n))) w
def AvB (w : World) (g : Nat) (T : TypeId) (l : List Nat) : Prop := w.heap[g]? = some (.cells (ivA .u8 l) T (0, 0))
theorem AvB.bw {a b : World} {g : Nat} {T : TypeId} {l : List Nat} (h : AvB a g T l) (hb : BW a b) : AvB b g T l := hb.heap h
theorem AvB.new (w : World) (T : TypeId) (l : List Nat) : AvB (w.alloc (.cells (ivA .u8 l) T)) w.heap.size T l := heap_alloc_new w _
theorem AvB.lt {w : World} {g : Nat} {T : TypeId} {l : List Nat} (h : AvB w g T l) : g < w.heap.size := (Array.getElem?_eq_some_iff.1 h).1
theorem AvB.cell {w : World} {g : Nat} {T : TypeId} {l : List Nat} (h : AvB w g T l) (i : Nat) (hi : i < l.length) : w.cell? ⟨g, i, none⟩ = some (.int .u8 (l.getD i 0 : Nat)) := iv_cell h i hi
theorem AvB.frz {w : World} {g : Nat} {T : TypeId} {l : List Nat} (h : AvB w g T l) (i : Nat) : w.frozen? ⟨g, i, none⟩ = false := hp_frz h i
theorem AvB.set {w : World} {g : Nat} {T : TypeId} {l : List Nat} (h : AvB w g T l) (i x : Nat) : AvB (w.setCell ⟨g, i, none⟩ (.int .u8 (x : Nat))) g T (l.set i x) := iv_set h i x
theorem AvB.setO {w : World} {g : Nat} {T : TypeId} {l : List Nat} (h : AvB w g T l) {b o : Nat} (hb : g ≠ b) (v : Value) : AvB (w.setCell ⟨b, o, none⟩ v) g T l := (hp_oth hb).trans h
theorem AvB.row {w : World} {g : Nat} {T : TypeId} {l : List Nat} (h : AvB w g T l) (k : List Nat) : AvB (w.setRow g (ivA .u8 k)) g T k := hp_row h _
theorem AvB.rowO {w : World} {g : Nat} {T : TypeId} {l : List Nat} (h : AvB w g T l) {b : Nat} (hb : g ≠ b) (cs : Array Value) : AvB (w.setRow b cs) g T l := (hp_rowo cs hb).trans h
theorem AvB.still {w w' : World} {g : Nat} {T : TypeId} {l : List Nat} (h : AvB w g T l) {S : List Nat} (hs : Still S w w') (hg : g ∉ S) : AvB w' g T l := hp_st hs h hg
theorem AvB.sb {w : World} {g : Nat} {T : TypeId} {l : List Nat} (h : AvB w g T l) (hb : ByL l) (n : Nat) (hn : l.length = n) (hm : n ≤ maxLen) : SB w (.slice (some ⟨g, 0, none⟩) n n) n l := by
 refine SB.mk' hn hb (Nat.le_refl _) hm h.lt fun j hj => ?_
 rw [Nat.zero_add]
 exact h.cell j (by omega)
section
variable {ops : Array Oper} {rest : List Oper} {o : Oper} {a : Act} {w : World} {Q : Exit → Act → World → Prop} {T : TypeId} {n : Nat}
theorem alA (hT : ArT T n) (hgd : o.guard = none) (ho : o.op = .alloc T)
  (h : wpList Tryz.prog ops Q rest (a.put o.dst (.pointer (some ⟨w.heap.size, 0, none⟩))) (w.alloc (.cells (ivA .u8 (zeros n)) T))) : wpList Tryz.prog ops Q (o :: rest) a w :=
 wpList_alloc_of hgd T ho _ hT.hz h
theorem ldA (hT : ArT T n) (hgd : o.guard = none) {x : Operand} (ho : o.op = .load T x) {g : Nat} (hx : a.eval x = .pointer (some ⟨g, 0, none⟩)) {l : List Nat} (H : AvB w g T l) (hl : l.length = n)
  (h : wpList Tryz.prog ops Q rest (a.put o.dst (.agg (ivA .u8 l))) w) : wpList Tryz.prog ops Q (o :: rest) a w :=
 have ⟨d, h1, h2, _⟩ := hT.hu
 wpList_load_row hgd T x ho _ hx _ _ _ _ H h1 (by cases d <;> first | rfl | cases h2) (by rw [hT.hi, ivA_size, hl]) h
theorem stR (hT : ArT T n) (hgd : o.guard = none) {x y : Operand} (ho : o.op = .store T x y) {g : Nat} (hx : a.eval x = .pointer (some ⟨g, 0, none⟩)) {l k : List Nat} (hy : a.eval y = .agg (ivA .u8 k)) (H : AvB w g T l) (hl : l.length = n) (hk : k.length = n)
  (h : wpList Tryz.prog ops Q rest (a.put o.dst undef) (w.setRow g (ivA .u8 k))) : wpList Tryz.prog ops Q (o :: rest) a w :=
 wpList_store_row hgd T x y ho g _ hx hy _ _ H (by rw [hT.hi, ivA_size, hk]) (by rw [ivA_size, ivA_size, hl, hk]) (ivA_one _ _) h
theorem stN (hT : ArT T n) (hgd : o.guard = none) {x y : Operand} (ho : o.op = .store T x y) {k : List Nat} (hx : a.eval x = .pointer (some ⟨w.heap.size, 0, none⟩)) (hy : a.eval y = .agg (ivA .u8 k)) (hk : k.length = n)
  (h : wpList Tryz.prog ops Q rest (a.put o.dst undef) (w.alloc (.cells (ivA .u8 k) T))) : wpList Tryz.prog ops Q (o :: rest) a (w.alloc (.cells (ivA .u8 (zeros n)) T)) :=
 wpList_store_new hgd T x y ho _ _ T hx hy (by rw [hT.hi, ivA_size, hk]) (by rw [ivA_size, ivA_size, zeros_len, hk]) (ivA_one _ _) h
end
theorem qlA {T : TypeId} {n : Nat} (hT : ArT T n) {C : World → Prop} {a a1 : Act} {o : Oper} {K : Act → Prop} {x : Operand} (ho : o.op = .load T x) {g : Nat} (hx : a.eval x = .pointer (some ⟨g, 0, none⟩)) {l : List Nat} (hl : l.length = n) (h : ∀ w, C w → AvB w g T l) (ha : a.put o.dst (.agg (ivA .u8 l)) = a1) (hK : K a1) : o.quiet Tryz.prog a C K :=
 have ⟨d, h1, h2, _⟩ := hT.hu
 quiet_load_row T x ho g hx T (ivA .u8 l) (0, 0) _ h1 (by cases d <;> first | rfl | cases h2) (by rw [hT.hi, ivA_size, hl]) h ha hK
theorem make_u8 (n : Nat) (hn : n ≤ 1000000000000) (w : World) : (Instr.makeSlice 35 (.int .i64 (n : Nat)) (.int .i64 (n : Nat))).run Tryz.prog w = .ok (.slice (some ⟨w.heap.size, 0, none⟩) n n) (w.alloc (.cells (ivA .u8 (zeros n)) 5)) := by
 have e : madeCells #[.int .u8 0] n = ivA .u8 (zeros n) := by
  refine Array.ext_getElem? fun j => ?_
  rcases Nat.lt_or_ge j n with h | h
  ·simp [madeCells, ivA, zeros, h, Nat.mod_one]
  ·simp [madeCells, ivA, zeros, Nat.not_lt.2 h]
 rw [← e]
 exact run_make_row' 35 5 (.int .u8 0) 1 Tryz.underlying35 (by kernel_rfl) rfl .i64 .i64 n (by omega) (by omega) w
theorem SB_zeros (n : Nat) (hn : n ≤ 1000000000000) (w : World) : SB (w.alloc (.cells (ivA .u8 (zeros n)) 5)) (.slice (some ⟨w.heap.size, 0, none⟩) n n) n (zeros n) :=
 (AvB.new w 5 (zeros n)).sb (fun x hx => by simp [zeros] at hx; omega) n (zeros_len n) (by unfold maxLen; omega)
end Go.Proofs.YtikmhlbpefednaaGreat

namespace Go.Proofs.YtikmhlbpefednaaGreat
open Go.RowKit
theorem ar16 : ArT 22 16 := ⟨⟨_, Tryz.underlying22, rfl, rfl⟩, by kernel_rfl, fun w => by kernel_rfl⟩
end Go.Proofs.YtikmhlbpefednaaGreat

namespace Go.Proofs.YtikmhlbpefednaaGreat
open Go.RowKit
theorem AvB.range {w : World} {g : Nat} {T : TypeId} {l : List Nat} (h : AvB w g T l) (off n : Nat) (hn : off + n ≤ l.length) : w.rangeAt g off (bvs ((l.drop off).take n)) := fun j v hv => by
 have hj : j < n := by
  rcases Nat.lt_or_ge j n with h | h
  ·exact h
  ·rw [List.getElem?_eq_none (by rw [bvs_len, List.length_take]; omega)] at hv; cases hv
 rw [h.cell (off + j) (by omega)]
 rw [bvs_get _ _ (by rw [List.length_take, List.length_drop]; omega)] at hv
 rw [← hv]
 simp [List.getD_eq_getElem?_getD, List.getElem?_take, hj]
theorem bvs_ivA (l : List Nat) : (bvs l).toArray = ivA .u8 l := rfl
def mid (l : List Nat) (off n : Nat) : List Nat := (l.drop off).take n
theorem mid_len (l : List Nat) (off n : Nat) (h : off + n ≤ l.length) : (mid l off n).length = n := by simp [mid]; omega
theorem AvB.sbM {w : World} {g : Nat} {T : TypeId} {l : List Nat} (h : AvB w g T l) (hb : ByL l) (off n cap : Nat) (h1 : off + n ≤ l.length) (hc : n ≤ cap) (hm : cap ≤ maxLen) : SB w (.slice (some ⟨g, off, none⟩) n cap) n (mid l off n) := by
 refine SB.mk' (mid_len l off n h1) ((hb.drop _).take _) hc hm h.lt fun j hj => ?_
 rw [h.cell (off + j) (by omega)]
 simp [mid, List.getD_eq_getElem?_getD, List.getElem?_take, hj]
section
variable {ops : Array Oper} {rest : List Oper} {o : Oper} {a : Act} {w : World} {Q : Exit → Act → World → Prop} {T T' : TypeId} {n : Nat}
theorem ldM (hT : ArT T n) (hgd : o.guard = none) {x : Operand} (ho : o.op = .load T x) {g off : Nat} (hx : a.eval x = .pointer (some ⟨g, off, none⟩)) {l : List Nat} (H : AvB w g T' l) (hl : off + n ≤ l.length)
  (h : wpList Tryz.prog ops Q rest (a.put o.dst (.agg (ivA .u8 (mid l off n)))) w) : wpList Tryz.prog ops Q (o :: rest) a w :=
 have ⟨_, h1, _, h2⟩ := hT.hu
 wpList_load_mid hgd T x ho g off hx _ _ (H.range off n hl) h1 h2 (by rw [hT.hi, show (bvs ((l.drop off).take n)).length = n by rw [bvs_len, List.length_take, List.length_drop]; omega]) h
theorem qlM (hT : ArT T n) {C : World → Prop} {a1 : Act} {K : Act → Prop} {x : Operand} (ho : o.op = .load T x) {g off : Nat} (hx : a.eval x = .pointer (some ⟨g, off, none⟩)) {l : List Nat} (hl : off + n ≤ l.length) (h : ∀ w, C w → AvB w g T' l) (ha : a.put o.dst (.agg (ivA .u8 (mid l off n))) = a1) (hK : K a1) : o.quiet Tryz.prog a C K := by
 have ⟨_, h1, _, h2⟩ := hT.hu
 refine ⟨.agg (ivA .u8 (mid l off n)), fun w hw => ?_, by rw [ha]; exact hK⟩
 unfold Oper.quietAt execOp
 have := run_loadVar_mid w g off T (bvs (mid l off n)) _ ((h w hw).range off n hl) h1 h2 (by rw [hT.hi, bvs_len, mid_len l off n hl])
 rw [bvs_ivA] at this
 simp only [ho, hx, Instr.loadAt, Instr.sureAddr, Sem.run_bind, Sem.run_pure, Result.andThen_ok, this, Oper.quietUpon, and_self]
def splB (l : List Nat) (off : Nat) (cs : List Nat) : List Nat := l.take off ++ (cs ++ l.drop (off + cs.length))
theorem splB_len (l : List Nat) (off : Nat) (cs : List Nat) (h : off + cs.length ≤ l.length) : (splB l off cs).length = l.length := by simp [splB]; omega
theorem wp_copyB (hgd : o.guard = none) (d s : Operand) (ho : o.op = .call { callee := .builtin .copy, args := #[d, s], argTypes := #[35, 35] })
  {g off dLen dCap : Nat} {cur : List Nat} (hd : a.eval d = .slice (some ⟨g, off, none⟩) dLen dCap) (H : AvB w g T cur) {xv : Value} {m : Nat} {l : List Nat} (hs : a.eval s = xv) (V : SB w xv m l) (hfit : off + min m dLen ≤ cur.length)
  (h : ∀ w', AvB w' g T (splB cur off (l.take (min m dLen))) → Still [g] w w' → w'.heap.size = w.heap.size → wpList Tryz.prog ops Q rest (a.put o.dst (.int .i64 (min m dLen : Nat))) w') : wpList Tryz.prog ops Q (o :: rest) a w := by
 obtain ⟨sa, cap, rfl, _, _⟩ := V.len
 have hlen : (l.take (min m dLen)).length = min m dLen := by rw [List.length_take, V.1]; omega
 by_cases h0 : min m dLen = 0
 ·refine wpList_copy_nothing hgd d s _ _ ho 5 Tryz.underlying35 info_u8 _ _ _ _ _ _ hd hs ?_ ?_
  ·exact h0
  ·have := h w (by rw [h0, List.take_zero]; simpa [splB] using H) (Still.refl _ _) rfl
   rw [h0] at this
   exact this
 ·obtain ⟨b, ob, cap', he, _, _, hb, hcell⟩ := V.form (by omega)
  cases he
  have hr := run_copy_row (P := Tryz.prog) w 35 35 o.type 5 g off dLen dCap ⟨b, ob, none⟩ m cap (ivA .u8 cur) T (bvs (l.take (min m dLen))) Tryz.underlying35 info_u8 H (by rw [bvs_len, hlen]) (fun j v hv => ?_) (by rw [bvs_len, hlen, ivA_size]; exact hfit) (bvs_one _)
  ·refine wpList_plain hgd fun K hK => ?_
   unfold Oper.wp execOp
   simp only [ho, resolve, invoke, builtin, Sem.run_bind, Sem.run_pure, Result.andThen_ok, List.map_toArray, List.map_cons, List.map_nil, hd, hs, hr]
   have e : ((ivA .u8 cur).toList.take off ++ bvs (l.take (min m dLen)) ++ (ivA .u8 cur).toList.drop (off + (bvs (l.take (min m dLen))).length)).toArray = ivA .u8 (splB cur off (l.take (min m dLen))) := by
    rw [bvs_len]
    simp [ivA, bvs, splB, List.map_take, List.map_drop]
   rw [e]
   refine hK _ _ ?_
   have := h (w.setRow g (ivA .u8 (splB cur off (l.take (min m dLen))))) (H.row _) ⟨rfl, rfl, rfl, by simp [World.setRow], fun k _ hk => ?_⟩ (by simp [World.setRow])
   ·rw [bvs_len, hlen]; exact this
   ·simp only [World.setRow, Array.getElem?_modify]
    rw [if_neg (fun e => hk (by simp [e]))]
  ·have hj : j < min m dLen := by
    rcases Nat.lt_or_ge j (min m dLen) with h | h
    ·exact h
    ·rw [List.getElem?_eq_none (by rw [bvs_len, hlen]; exact h)] at hv; cases hv
   rw [bvs_get _ _ (by rw [hlen]; exact hj)] at hv
   rw [← hv, Addr.add_mid, hcell j (by omega)]
   simp [List.getD_eq_getElem?_getD, List.getElem?_take, hj]
end
end Go.Proofs.YtikmhlbpefednaaGreat
