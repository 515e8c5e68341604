/- append(v, make([]byte, k)...) where k is a byte. No condition but the sizes'. -/
import Derived.Test.YtikmhlbpefednaaGreatSlz
import Derived.Test.YtikmhlbpefednaaGreatGPr
namespace Go.Proofs.YtikmhlbpefednaaGreat
open Go.RowKit
theorem zU8' : ∃ i, Tryz.prog.info? 5 = some i ∧ i.zero = some (.int .u8 0) ∧ i.size = 1 ∧ i.bytes = 1 := by
 have h : (Tryz.prog.info? 5).map (fun i => (i.zero, i.size, i.bytes)) = some (some (.int .u8 0), 1, 1) := by kernel_rfl
 cases hi : Tryz.prog.info? 5 with
 | none => simp [hi] at h
 | some i =>
  simp only [hi, Option.map_some, Option.some.injEq, Prod.mk.injEq] at h
  exact ⟨i, rfl, h.1, h.2.1, h.2.2⟩
theorem wp_apZ8 {o : Oper} {a : Act} {w : World} {K : Act → World → Prop} {Q : Exit → Act → World → Prop} (s x : Operand)
  (ho : o.op = .call { callee := .builtin .append, args := #[s, x], argTypes := #[35, 5] }) (base : Nat) (v : Value) (n : Nat) (l : List Nat) (hs : a.eval s = v) (hown : OB w base 5 v n l) (k : Nat) (hx : a.eval x = .int .u8 k)
  (hsz : n + k ≤ 1000000000000) (hbase : base ≤ w.heap.size)
  (h : ∀ sa cap w', n + k ≤ cap → cap ≤ maxLen → OB w' base 5 (.slice sa (n + k) cap) (n + k) (l ++ List.replicate k 0) → Still v.ownBlock.toList w w' → Below base w w' → (∀ j, (Value.slice sa (n + k) cap).ownBlock = some j → v.ownBlock = some j ∨ w.heap.size ≤ j) → K (a.put o.dst (.slice sa (n + k) cap)) w') : o.wp Tryz.prog a w K Q := by
 have key := fun ty => run_append_ob_zerosK (P := Tryz.prog) w .u8 .u8 Tryz.underlying35 zU8' (tn := 5) Tryz.underlying5 ty base v n l hown k hsz hbase
 obtain ⟨v', w', h1, h2, h3, h4⟩ := key 0
 obtain ⟨sa, cap, rfl, hc, hm⟩ := h2.len
 exact wp_append_run 35 5 s x ho v (.int .u8 k) _ hs hx (fun ty => by rw [← h1]; rfl) (h sa cap w' hc hm h2 (Still.of_row h3) (Ows.grown hbase (Nat.le_refl _) hown.2.2 h3) h4)
end Go.Proofs.YtikmhlbpefednaaGreat
