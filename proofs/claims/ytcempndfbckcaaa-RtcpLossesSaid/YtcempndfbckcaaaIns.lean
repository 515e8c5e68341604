/- One element inserted into a slice of the call's own, at the level of cells: what the library's text does to them. Nothing of the program; no condition but the sizes' bound. -/
import Derived.Test.YtcempndfbckcaaaEl
import Derived.Lib.AppendZerosOnto
import Derived.Lib.Overlaps
import Derived.Laws.IdiomCopy
namespace Go.Proofs.Ytcempndfbckcaaa
open Go.RowKit

section
variable {P : Program} {T E : TypeId} {size : Nat}
theorem run_cut_h (ht : P.underlying T = some (.slice E)) (hs : (P.info? E).map (·.size) = some size) (a : Option Addr) (len cap hi : Nat) (y : Int) (hy : y = (hi : Nat)) (k2 : IntKind) (h2 : hi ≤ cap) (w : World) :
    (Instr.slice T (.slice a len cap) none (some (.int k2 y)) none).run P w = .ok (.slice a hi cap) w := by
  subst hy
  have ht' : P.underlying T = some (.slice (P.elem T)) := by rw [ht]; simp [Program.elem, ht]
  have hE : P.elem T = E := by simp [Program.elem, ht]
  have hsz : (sizeOf E).run P w = .ok size w := by
    cases hq : P.info? E with
    | none => simp [hq] at hs
    | some i => simp [hq] at hs; simp [sizeOf, typeInfo, hq, hs]
  have hz := cutA_zero a cap size
  unfold cutA at hz
  rw [Nat.zero_mul] at hz
  rw [run_slice_h w T a len cap ht' k2 hi (by omega) (by omega), hE, hsz]
  simp [Result.andThen, sliced, hz]
/-- copy over elements of however many cells. -/
theorem run_copy_n (w : World) (dT sT ty elem : TypeId) (hpos : 0 < size) (b o dLen dCap : Nat) (a : Addr) (sLen sCap : Nat) (cs : List Value)
    (hu : P.underlying dT = some (.slice elem)) (hs : (P.info? elem).map (·.size) = some size) (hn : cs.length = Nat.min sLen dLen * size)
    (hsrc : ∀ j v, cs[j]? = some v → w.cell? (a.add j) = some v) (hc : ∀ j, j < cs.length → (w.cell? ⟨b, o + j, none⟩).isSome = true) (hf : ∀ j, j < cs.length → w.frozen? ⟨b, o + j, none⟩ = false) (h1 : ∀ v ∈ cs, v.oneCell' = true) :
    (Builtin.copy_ #[dT, sT] ty #[.slice (some ⟨b, o, none⟩) dLen dCap, .slice (some a) sLen sCap]).run P w = .ok (goInt (Nat.min sLen dLen)) (w.setCells b o cs) := by
  have hl := run_loadCells_list (P := P) w a cs hsrc
  have hst := run_storeCells_cells (P := P) b o cs 0 w (by simpa using hc) (by simpa using hf) h1
  cases hq : P.info? elem with
  | none => simp [hq] at hs
  | some i =>
    have hi : i.size = size := by simpa [hq] using hs
    rw [hn] at hl
    simp only [Nat.add_zero] at hst
    simp [Builtin.copy_, run_underlying hu, Builtin.lenOf, Builtin.firstCells, sizeOf, typeInfo, hq, hi, hl, hst]
/-- copy into a row that is known whole. -/
theorem copy_row (w : World) (dT sT ty elem : TypeId) (hpos : 0 < size) (g o dLen dCap : Nat) (a : Addr) (sLen sCap : Nat) (cs : List Value) (cur : Array Value) (hg : w.heap[g]? = some (.cells cur elem (0, 0)))
    (hu : P.underlying dT = some (.slice elem)) (hs : (P.info? elem).map (·.size) = some size) (hn : cs.length = Nat.min sLen dLen * size)
    (hsrc : ∀ j v, cs[j]? = some v → w.cell? (a.add j) = some v) (h1 : ∀ v ∈ cs, v.oneCell' = true) (hfit : o + cs.length ≤ cur.size) :
    ∃ w' cur', (Builtin.copy_ #[dT, sT] ty #[.slice (some ⟨g, o, none⟩) dLen dCap, .slice (some a) sLen sCap]).run P w = .ok (goInt (Nat.min sLen dLen)) w' ∧ w'.heap[g]? = some (.cells cur' elem (0, 0)) ∧ cur'.size = cur.size ∧ (∀ j, cur'.toList[j]? = if o ≤ j ∧ j < o + cs.length then cs[j - o]? else cur.toList[j]?) ∧ Still [g] w w' := by
  obtain ⟨cur', q1, q2, q3⟩ := setCells_heap_eq g cs o w cur elem (0, 0) hg hfit
  obtain ⟨f1, f2, f3, f4⟩ := setCells_frame g cs o w
  refine ⟨_, cur', run_copy_n w dT sT ty elem hpos g o dLen dCap a sLen sCap cs hu hs hn hsrc (fun j hj => ?_) (fun j hj => hp_frz hg _) h1, q1, q2, q3, ⟨f1, f2, f3, by rw [f4]; exact Nat.le_refl _, fun k _ hk => setCells_other g cs _ w k (fun e => hk (by rw [e]; simp))⟩⟩
  rw [hp_cell hg, Array.getElem?_eq_getElem (by omega)]; rfl
end
section
variable {P : Program}
theorem wp_copy_run {o : Oper} {a : Act} {w w' : World} {K : Act → World → Prop} {Q : Exit → Act → World → Prop} (T tx : TypeId) (s x : Operand)
    (ho : o.op = .call { callee := .builtin .copy, args := #[s, x], argTypes := #[T, tx] }) (v xv v' : Value) (hs : a.eval s = v) (hx : a.eval x = xv) (hr : ∀ ty, (Builtin.copy_ #[T, tx] ty #[v, xv]).run P w = .ok v' w') (h : K (a.put o.dst v') w') : o.wp P a w K Q := by
  unfold Oper.wp execOp
  simp only [ho, resolve, invoke, builtin, Sem.run_bind, Sem.run_pure, Result.andThen_ok, List.map_toArray, List.map_cons, List.map_nil, hs, hx, hr]
  exact h
theorem wpList_copy_run {ops : Array Oper} {rest : List Oper} {o : Oper} {a : Act} {w w' : World} {Q : Exit → Act → World → Prop} (hgd : o.guard = none) (T tx : TypeId) (s x : Operand)
    (ho : o.op = .call { callee := .builtin .copy, args := #[s, x], argTypes := #[T, tx] }) (v xv v' : Value) (hs : a.eval s = v) (hx : a.eval x = xv) (hr : ∀ ty, (Builtin.copy_ #[T, tx] ty #[v, xv]).run P w = .ok v' w') (h : wpList P ops Q rest (a.put o.dst v') w') : wpList P ops Q (o :: rest) a w :=
  wpList_plain hgd fun _ hK => wp_copy_run T tx s x ho v xv v' hs hx hr (hK _ _ h)
theorem wpList_append_run {ops : Array Oper} {rest : List Oper} {o : Oper} {a : Act} {w w' : World} {Q : Exit → Act → World → Prop} (hgd : o.guard = none) (T tx : TypeId) (s x : Operand)
    (ho : o.op = .call { callee := .builtin .append, args := #[s, x], argTypes := #[T, tx] }) (v xv v' : Value) (hs : a.eval s = v) (hx : a.eval x = xv) (hr : ∀ ty, (Builtin.append_ #[T, tx] ty #[v, xv]).run P w = .ok v' w') (h : wpList P ops Q rest (a.put o.dst v') w') : wpList P ops Q (o :: rest) a w :=
  wpList_plain hgd fun _ hK => wp_append_run T tx s x ho v xv v' hs hx hr (hK _ _ h)
/-- append(s[:i], make(..)...) where it does not fit: a new row, of which the first cells are those of s. -/
theorem grow_zeros (w : World) {ST T tn : TypeId} {size bytes : Nat} (hT : SlTy P ST T size bytes) (htn : P.underlying tn = some (.int .i64)) (ad : Addr) (i cap k : Nat) (olds : List Value) (hold : olds.length = i * size) (hsrc : ∀ j v, olds[j]? = some v → w.drew.cell? (ad.add j) = some v)
    (hk : 0 < k) (hg : cap < i + k) (hsz : (i + k) * bytes ≤ 140737488355328) :
    ∃ w' cap2 cur, (∀ ty, (Builtin.append_ #[ST, tn] ty #[.slice (some ad) i cap, .int .i64 (k : Nat)]).run P w = .ok (.slice (some ⟨w.heap.size, 0, none⟩) (i + k) cap2) w') ∧ i + k ≤ cap2 ∧ cap2 ≤ maxLen ∧ w'.heap[w.heap.size]? = some (.cells cur T (0, 0)) ∧ cur.size = cap2 * size ∧ (∀ j, j < i * size → cur.toList[j]? = olds[j]?) ∧ BW w w' := by
  obtain ⟨ti, z, hi, hz, h2, h3, h4⟩ := hT.ex
  subst h2
  subst h3
  have hbig : i + k ≤ (i + k) * ti.bytes := Nat.le_mul_of_pos_right _ hT.bpos
  have hml : i + k ≤ maxLen := by unfold maxLen; omega
  have hkb : k * ti.bytes ≤ (i + k) * ti.bytes := Nat.mul_le_mul_right _ (by omega)
  have ho : (Builtin.firstCells ti.size i (.slice (some ad) i cap)).run P w.drew = .ok olds.toArray w.drew := run_firstCells_some w.drew ti.size i ad i cap olds hold hsrc
  have hr := fun ty => Lib.run_append_grow_zeros (P := P) w ST tn ty T ti z .i64 .i64 hT.ht htn hi hz (some ad) i cap olds ho k hk hT.pos hg (by unfold maxLen at hml; omega) (by omega) (growslice_fits hg hsz)
  have hge := grownCap_ge w (i + k) cap T
  refine ⟨_, _, _, hr, hge, grownCap_le_maxLen w _ _ _ hml, heap_alloc_new w.drew _, ?_, fun j hj => ?_, ((BW.refl w).drew).alloc⟩
  · simp only [Array.size_append, List.size_toArray, size_zeroCells, h4, hold]
    rw [← Nat.add_mul, ← Nat.add_mul]
    congr 1; omega
  · rw [Array.toList_append, Array.toList_append, List.append_assoc, List.getElem?_append_left (by show j < olds.length; omega)]
end
/-- What stands in the row behind both copies. -/
theorem ins_eq (L : List Value) (o p N sz : Nat) (xs c : List Value) (hx : xs.length = N) (hc : c.length = sz) (hp : p ≤ N) (hL : o + N + sz ≤ L.length) (h1 : ∀ k, k < p → L[o + k]? = xs[k]?) (h2 : ∀ k, k < sz → L[o + p + k]? = c[k]?) (h3 : ∀ k, p ≤ k → k < N → L[o + k + sz]? = xs[k]?) :
    (L.drop o).take (N + sz) = xs.take p ++ c ++ xs.drop p := by
  have ht : (xs.take p).length = p := by rw [List.length_take]; omega
  refine List.ext_getElem? fun k => ?_
  rw [List.getElem?_take]
  by_cases hk : k < N + sz
  · rw [if_pos hk, List.getElem?_drop]
    by_cases k1 : k < p
    · rw [h1 k k1, List.append_assoc, List.getElem?_append_left (by omega), List.getElem?_take, if_pos k1]
    · by_cases k2 : k < p + sz
      · rw [show o + k = o + p + (k - p) by omega, h2 _ (by omega), List.append_assoc, List.getElem?_append_right (by omega), ht, List.getElem?_append_left (by omega)]
      · rw [show o + k = o + (k - sz) + sz by omega, h3 _ (by omega) (by omega), List.getElem?_append_right (by rw [List.length_append]; omega), List.length_append, ht, hc, List.getElem?_drop]
        congr 1; omega
  · rw [if_neg hk, List.getElem?_eq_none (by rw [List.length_append, List.length_append, ht, List.length_drop]; omega)]
/-- Both roads' end: a row of the call's own with the element in its place. -/
theorem ins_ows {w : World} {base : Nat} {T : TypeId} {size g o n cap i : Nat} {cur : Array Value} {xs c : List Value} (hb : base ≤ g) (hg : w.heap[g]? = some (.cells cur T (0, 0))) (hn : n + 1 ≤ cap) (hcm : cap ≤ maxLen) (hcs : o + cap * size ≤ cur.size) (hx : xs.length = n * size) (hc : c.length = size) (hi : i ≤ n)
    (h1 : ∀ k, k < i * size → cur.toList[o + k]? = xs[k]?) (h2 : ∀ k, k < size → cur.toList[o + i * size + k]? = c[k]?) (h3 : ∀ k, i * size ≤ k → k < n * size → cur.toList[o + k + size]? = xs[k]?) :
    Ows w base T size (.slice (some ⟨g, o, none⟩) (n + 1) cap) (n + 1) (xs.take (i * size) ++ c ++ xs.drop (i * size)) := by
  have hp : i * size ≤ n * size := Nat.mul_le_mul_right _ hi
  have hcap : n * size + size ≤ cap * size := by rw [← Nat.succ_mul]; exact Nat.mul_le_mul_right _ hn
  have hlen : (xs.take (i * size) ++ c ++ xs.drop (i * size)).length = (n + 1) * size := by
    rw [List.length_append, List.length_append, List.length_take, List.length_drop, Nat.succ_mul]; omega
  refine ⟨hlen, .inr ⟨g, o, cap, cur, rfl, hb, hg, hn, hcm, hcs, ?_⟩⟩
  rw [Nat.succ_mul]
  exact ins_eq cur.toList o (i * size) (n * size) size xs c hx hc hp (by rw [Array.length_toList]; omega) h1 h2 h3
end Go.Proofs.Ytcempndfbckcaaa
