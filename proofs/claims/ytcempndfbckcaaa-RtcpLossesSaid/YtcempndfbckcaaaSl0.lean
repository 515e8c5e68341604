/- append onto an empty slice that has no room: nothing that was there is turned. Nothing of the program; no condition but the sizes' bound. -/
import Derived.Test.YtcempndfbckcaaaSl
namespace Go.Proofs.Ytcempndfbckcaaa
open Go.RowKit

section
variable {P : Program} {w : World}
theorem run_append_0 {T E : TypeId} {size bytes : Nat} (hT : SlTy P T E size bytes) (tx ty : TypeId) (base g o : Nat) (cur : Array Value) (hb : base ≤ g) (hg : w.heap[g]? = some (.cells cur E (0, 0))) (ho : o ≤ cur.size) (x : Value) (m : Nat) (ys : List Value) (hx : App P w T size tx x m ys)
    (hsz : m * bytes ≤ 140737488355328) (hbase : base ≤ w.heap.size) :
    ∃ v' w', (Builtin.append_ #[T, tx] ty #[.slice (some ⟨g, o, none⟩) 0 0, x]).run P w = .ok v' w' ∧ Ows w' base E size v' m ys ∧ w.grownBy w' none ∧ ∀ k, v'.ownBlock = some k → k = g ∨ w.heap.size ≤ k := by
  by_cases hm : m = 0
  · subst hm
    obtain ⟨i, z, hi, hz, h2, h3, h4⟩ := hT.ex
    subst h2
    subst h3
    have hsrc := hx.src w
    have hy : ys = [] := List.eq_nil_of_length_eq_zero (by have := hsrc.newsLen; omega)
    subst hy
    have hr := run_append_room_src (P := P) w T tx ty E i hT.ht hi g o 0 0 x 0 [] hsrc (by omega) (fun j hj => by simp at hj) (fun j hj => by simp at hj)
    exact ⟨_, _, hr, ⟨by simp, .inr ⟨g, o, 0, cur, rfl, hb, hg, Nat.le_refl _, by unfold maxLen; omega, by omega, by simp⟩⟩, ⟨rfl, rfl, rfl, Nat.le_refl _, fun _ _ _ => rfl⟩, fun k hk => .inl (by simpa [Value.ownBlock] using hk.symm)⟩
  · obtain ⟨v', w', h1, h2, h3⟩ := run_append_full w hT tx ty base (some ⟨g, o, none⟩) 0 [] ⟨by simp, by unfold maxLen; omega, .inl ⟨rfl, _, 0, rfl, (fun h => by cases h), by unfold maxLen; omega⟩⟩ x m ys hx (by omega) (by rw [Nat.zero_add]; exact hsz) hbase
    rw [Nat.zero_add, List.nil_append] at h2
    have hown : Ows w base E size (.slice (some ⟨g, o, none⟩) 0 0) 0 [] := ⟨by simp, .inr ⟨g, o, 0, cur, rfl, hb, hg, Nat.le_refl _, by unfold maxLen; omega, by omega, by simp⟩⟩
    obtain ⟨v2, w2, k1, _, _, k4⟩ := run_append_ows w hT tx ty base _ 0 [] hown x m ys hx (by rw [Nat.zero_add]; exact hsz) hbase
    rw [h1] at k1
    simp only [Result.ok.injEq] at k1
    obtain ⟨rfl, rfl⟩ := k1
    refine ⟨v', w', h1, h2, h3, fun k hk => ?_⟩
    rcases k4 k hk with h | h
    · exact .inl (by simpa [Value.ownBlock] using h.symm)
    · exact .inr h
end
section
variable {P : Program}
theorem wp_ap0 {T E : TypeId} {size bytes : Nat} (hT : SlTy P T E size bytes) {o : Oper} {a : Act} {w : World} {K : Act → World → Prop} {Q : Exit → Act → World → Prop} (tx : TypeId) (s x : Operand)
    (ho : o.op = .call { callee := .builtin .append, args := #[s, x], argTypes := #[T, tx] }) (base g ofs : Nat) (cur : Array Value) (hs : a.eval s = .slice (some ⟨g, ofs, none⟩) 0 0) (hb : base ≤ g) (hg : w.heap[g]? = some (.cells cur E (0, 0))) (hofs : ofs ≤ cur.size) (xv : Value) (hx : a.eval x = xv) (m : Nat) (ys : List Value) (ha : App P w T size tx xv m ys)
    (hsz : m * bytes ≤ 140737488355328) (hbase : base ≤ w.heap.size)
    (h : ∀ v' w', Ows w' base E size v' m ys → w.grownBy w' none → (∀ k, v'.ownBlock = some k → k = g ∨ w.heap.size ≤ k) → K (a.put o.dst v') w') : o.wp P a w K Q := by
  obtain ⟨v', w', h1, h2, h3, h4⟩ := run_append_0 hT tx 0 base g ofs cur hb hg hofs xv m ys ha hsz hbase
  exact wp_append_run T tx s x ho _ xv v' hs hx (fun ty => by rw [← h1]; rfl) (h v' w' h2 h3 h4)
end
end Go.Proofs.Ytcempndfbckcaaa
