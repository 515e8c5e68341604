/- Pieces of blocks of bytes: read out of the middle, written into it, copied into it. No condition. -/
import Derived.Test.YtjjemkfkpnemoaaArB
import Derived.Laws.CopyOwn
import Derived.Laws.CopyRow
import Derived.Deep.MidRow
import Derived.BigFrame
namespace Go.Proofs.Ytjjemkfkpnemoaa
open Go.RowKit

theorem AvB.range {w : World} {g : Nat} {T : TypeId} {l : List Nat} (h : AvB w g T l) (off n : Nat) (hn : off + n ≤ l.length) : w.rangeAt g off (bvs ((l.drop off).take n)) := fun j v hv => by
  have hj : j < n := by
    rcases Nat.lt_or_ge j n with h | h
    · exact h
    · rw [List.getElem?_eq_none (by rw [bvs_len, List.length_take]; omega)] at hv; cases hv
  rw [h.cell (off + j) (by omega)]
  rw [bvs_get _ _ (by rw [List.length_take, List.length_drop]; omega)] at hv
  rw [← hv]
  simp [List.getD_eq_getElem?_getD, List.getElem?_take, hj]
theorem bvs_ivA (l : List Nat) : (bvs l).toArray = ivA .u8 l := rfl
/-- The n bytes from off on, as one value. -/
def mid (l : List Nat) (off n : Nat) : List Nat := (l.drop off).take n
theorem mid_len (l : List Nat) (off n : Nat) (h : off + n ≤ l.length) : (mid l off n).length = n := by simp [mid]; omega
theorem AvB.sbM {w : World} {g : Nat} {T : TypeId} {l : List Nat} (h : AvB w g T l) (hb : ByL l) (off n cap : Nat) (h1 : off + n ≤ l.length) (hc : n ≤ cap) (hm : cap ≤ maxLen) : SB w (.slice (some ⟨g, off, none⟩) n cap) n (mid l off n) := by
  refine SB.mk' (mid_len l off n h1) ((hb.drop _).take _) hc hm h.lt fun j hj => ?_
  rw [h.cell (off + j) (by omega)]
  simp [mid, List.getD_eq_getElem?_getD, List.getElem?_take, hj]
section
variable {ops : Array Oper} {rest : List Oper} {o : Oper} {a : Act} {w : World} {Q : Exit → Act → World → Prop} {T T' : TypeId} {n : Nat}
theorem ldM (hT : ArT T n) (hgd : o.guard = none) {x : Operand} (ho : o.op = .load T x) {g off : Nat} (hx : a.eval x = .pointer (some ⟨g, off, none⟩)) {l : List Nat} (H : AvB w g T' l) (hl : off + n ≤ l.length)
    (h : wpList Try.prog ops Q rest (a.put o.dst (.agg (ivA .u8 (mid l off n)))) w) : wpList Try.prog ops Q (o :: rest) a w :=
  have ⟨_, h1, _, h2⟩ := hT.hu
  wpList_load_mid hgd T x ho g off hx _ _ (H.range off n hl) h1 h2 (by rw [hT.hi, show (bvs ((l.drop off).take n)).length = n by rw [bvs_len, List.length_take, List.length_drop]; omega]) h
/-- The same behind a guard that is told. -/
theorem ldMg (hT : ArT T n) (hw : Region.wanted o (yielded ops a.tmps) = true) {x : Operand} (ho : o.op = .load T x) {g off : Nat} (hx : a.eval x = .pointer (some ⟨g, off, none⟩)) {l : List Nat} (H : AvB w g T' l) (hl : off + n ≤ l.length)
    (h : wpList Try.prog ops Q rest (a.put o.dst (.agg (ivA .u8 (mid l off n)))) w) : wpList Try.prog ops Q (o :: rest) a w :=
  have ⟨_, h1, _, h2⟩ := hT.hu
  BigFrame.wpList_want hw (fun _ hK => wp_load_mid T x ho g off hx _ _ (H.range off n hl) h1 h2 (by rw [hT.hi, show (bvs ((l.drop off).take n)).length = n by rw [bvs_len, List.length_take, List.length_drop]; omega]) (hK _ _ h))
theorem qlM (hT : ArT T n) {C : World → Prop} {a1 : Act} {K : Act → Prop} {x : Operand} (ho : o.op = .load T x) {g off : Nat} (hx : a.eval x = .pointer (some ⟨g, off, none⟩)) {l : List Nat} (hl : off + n ≤ l.length) (h : ∀ w, C w → AvB w g T' l) (ha : a.put o.dst (.agg (ivA .u8 (mid l off n))) = a1) (hK : K a1) : o.quiet Try.prog a C K := by
  have ⟨_, h1, _, h2⟩ := hT.hu
  refine ⟨.agg (ivA .u8 (mid l off n)), fun w hw => ?_, by rw [ha]; exact hK⟩
  unfold Oper.quietAt execOp
  have := run_loadVar_mid w g off T (bvs (mid l off n)) _ ((h w hw).range off n hl) h1 h2 (by rw [hT.hi, bvs_len, mid_len l off n hl])
  rw [bvs_ivA] at this
  simp only [ho, hx, Instr.loadAt, Instr.sureAddr, Sem.run_bind, Sem.run_pure, Result.andThen_ok, this, Oper.quietUpon, and_self]

/-- l with cs laid in from off on. -/
def splB (l : List Nat) (off : Nat) (cs : List Nat) : List Nat := l.take off ++ (cs ++ l.drop (off + cs.length))
theorem splB_len (l : List Nat) (off : Nat) (cs : List Nat) (h : off + cs.length ≤ l.length) : (splB l off cs).length = l.length := by simp [splB]; omega
theorem splB_byt (l : List Nat) (off : Nat) (cs : List Nat) (hl : ByL l) (hc : ByL cs) : ByL (splB l off cs) := (hl.take _).append (hc.append (hl.drop _))
theorem setRow_same {w : World} {g : Nat} {c : Array Value} {t : TypeId} {f : Nat × Nat} (h : w.heap[g]? = some (.cells c t f)) : Still [g] w w := Still.refl _ _
/-- copy(d, s) -/
theorem wp_copyB (hgd : o.guard = none) (d s : Operand) (ho : o.op = .call { callee := .builtin .copy, args := #[d, s], argTypes := #[37, 37] })
    {g off dLen dCap : Nat} {cur : List Nat} (hd : a.eval d = .slice (some ⟨g, off, none⟩) dLen dCap) (H : AvB w g T cur) {xv : Value} {m : Nat} {l : List Nat} (hs : a.eval s = xv) (V : SB w xv m l) (hfit : off + min m dLen ≤ cur.length)
    (h : ∀ w', AvB w' g T (splB cur off (l.take (min m dLen))) → Still [g] w w' → w'.heap.size = w.heap.size → wpList Try.prog ops Q rest (a.put o.dst (.int .i64 (min m dLen : Nat))) w') : wpList Try.prog ops Q (o :: rest) a w := by
  obtain ⟨sa, cap, rfl, _, _⟩ := V.len
  have hlen : (l.take (min m dLen)).length = min m dLen := by rw [List.length_take, V.1]; omega
  by_cases h0 : min m dLen = 0
  · refine wpList_copy_nothing hgd d s _ _ ho 5 Try.underlying37 info_u8 _ _ _ _ _ _ hd hs ?_ ?_
    · exact h0
    · have := h w (by rw [h0, List.take_zero]; simpa [splB] using H) (Still.refl _ _) rfl
      rw [h0] at this
      exact this
  · obtain ⟨b, ob, cap', he, _, _, hb, hcell⟩ := V.form (by omega)
    cases he
    have hr := run_copy_row (P := Try.prog) w 37 37 o.type 5 g off dLen dCap ⟨b, ob, none⟩ m cap (ivA .u8 cur) T (bvs (l.take (min m dLen))) Try.underlying37 info_u8 H (by rw [bvs_len, hlen]) (fun j v hv => ?_) (by rw [bvs_len, hlen, ivA_size]; exact hfit) (bvs_one _)
    · refine wpList_plain hgd fun K hK => ?_
      unfold Oper.wp execOp
      simp only [ho, resolve, invoke, builtin, Sem.run_bind, Sem.run_pure, Result.andThen_ok, List.map_toArray, List.map_cons, List.map_nil, hd, hs, hr]
      have e : ((ivA .u8 cur).toList.take off ++ bvs (l.take (min m dLen)) ++ (ivA .u8 cur).toList.drop (off + (bvs (l.take (min m dLen))).length)).toArray = ivA .u8 (splB cur off (l.take (min m dLen))) := by
        rw [bvs_len]
        simp [ivA, bvs, splB, List.map_take, List.map_drop]
      rw [e]
      refine hK _ _ ?_
      have := h (w.setRow g (ivA .u8 (splB cur off (l.take (min m dLen))))) (H.row _) ⟨rfl, rfl, rfl, by simp [World.setRow], fun k _ hk => ?_⟩ (by simp [World.setRow])
      · rw [bvs_len, hlen]; exact this
      · simp only [World.setRow, Array.getElem?_modify]
        rw [if_neg (fun e => hk (by simp [e]))]
    · have hj : j < min m dLen := by
        rcases Nat.lt_or_ge j (min m dLen) with h | h
        · exact h
        · rw [List.getElem?_eq_none (by rw [bvs_len, hlen]; exact h)] at hv; cases hv
      rw [bvs_get _ _ (by rw [hlen]; exact hj)] at hv
      rw [← hv, Addr.add_mid, hcell j (by omega)]
      simp [List.getD_eq_getElem?_getD, List.getElem?_take, hj]
end
end Go.Proofs.Ytjjemkfkpnemoaa
