/- append of bytes onto a slice of the call's own: the walk's step. No condition but the sizes'. -/
import Derived.Test.YtojedpahaifjgaaPre
namespace Go.Proofs.Ytojedpahaifjgaa
open Go.RowKit
theorem wp_apOB {o : Oper} {a : Act} {w : World} {K : Act → World → Prop} {Q : Exit → Act → World → Prop} (s x : Operand)
  (ho : o.op = .call { callee := .builtin .append, args := #[s, x], argTypes := #[34, 34] }) (base : Nat) (v : Value) (n : Nat) (l : List Nat) (hs : a.eval s = v) (hown : OB w base 5 v n l) (xv : Value) (hx : a.eval x = xv) (m : Nat) (k : List Nat) (hk : SB w xv m k)
  (hsz : n + m ≤ 1000000000000) (hbase : base ≤ w.heap.size)
  (h : ∀ sa cap w', n + m ≤ cap → cap ≤ maxLen → OB w' base 5 (.slice sa (n + m) cap) (n + m) (l ++ k) → Still v.ownBlock.toList w w' → Below base w w' → (∀ j, (Value.slice sa (n + m) cap).ownBlock = some j → v.ownBlock = some j ∨ w.heap.size ≤ j) → K (a.put o.dst (.slice sa (n + m) cap)) w') : o.wp Try.prog a w K Q := by
 refine wp_aps slU8 34 s x ho base v n (bvs l) hs hown.2.2 xv hx m (bvs k) (OB.sb_app Try.underlying34 hk) (by omega) hbase fun v' w' h1 h2 h3 => ?_
 have h4 := OB.of_app h1 hown.1 hk.1 hown.2.1 hk.2.1
 obtain ⟨sa, cap, rfl, hc, hm⟩ := h4.len
 exact h sa cap w' hc hm h4 (Still.of_row h2) (Ows.grown hbase (Nat.le_refl _) hown.2.2 h2) h3
theorem wpList_apOB {ops : Array Oper} {rest : List Oper} {o : Oper} {a : Act} {w : World} {Q : Exit → Act → World → Prop} (hgd : o.guard = none) (s x : Operand)
  (ho : o.op = .call { callee := .builtin .append, args := #[s, x], argTypes := #[34, 34] }) (base : Nat) (v : Value) (n : Nat) (l : List Nat) (hs : a.eval s = v) (hown : OB w base 5 v n l) (xv : Value) (hx : a.eval x = xv) (m : Nat) (k : List Nat) (hk : SB w xv m k)
  (hsz : n + m ≤ 1000000000000) (hbase : base ≤ w.heap.size)
  (h : ∀ sa cap w', n + m ≤ cap → cap ≤ maxLen → OB w' base 5 (.slice sa (n + m) cap) (n + m) (l ++ k) → Still v.ownBlock.toList w w' → Below base w w' → (∀ j, (Value.slice sa (n + m) cap).ownBlock = some j → v.ownBlock = some j ∨ w.heap.size ≤ j) → wpList Try.prog ops Q rest (a.put o.dst (.slice sa (n + m) cap)) w') : wpList Try.prog ops Q (o :: rest) a w :=
 wpList_plain hgd fun _ hK => wp_apOB s x ho base v n l hs hown xv hx m k hk hsz hbase fun sa cap w' k1 k2 k3 k4 k5 k6 => hK _ _ (h sa cap w' k1 k2 k3 k4 k5 k6)
theorem OB.new (w : World) (base : Nat) (l : List Nat) (n : Nat) (hb : base ≤ w.heap.size) (hl : l.length = n) (hn : n ≤ maxLen) (hby : ByL l) : OB (w.alloc (.cells (ivA .u8 l) 5)) base 5 (.slice (some ⟨w.heap.size, 0, none⟩) n n) n l :=
 ⟨hl, hby, Ows.new w base _ 1 _ _ n hb (by rw [bvs_len]; omega) hn (by simp [ivA, bvs])⟩
theorem OB.new0 (w : World) (base : Nat) (hb : base ≤ w.heap.size) : OB (w.alloc (.cells #[] 5)) base 5 (.slice (some ⟨w.heap.size, 0, none⟩) 0 0) 0 [] := OB.new w base [] 0 hb rfl (by decide) (by simp [ByL])
end Go.Proofs.Ytojedpahaifjgaa
