/- The words and the box of the reference's cipher, read. No condition. -/
import Derived.Test.YtikmhlbpefednaaGreatAesZ
import Derived.Test.YtikmhlbpefednaaGreatAin
namespace Go.Proofs.YtikmhlbpefednaaGreat
open Go.RowKit
theorem RC.word {w : World} {g : Nat} {W : List Nat} (h : RC w g W) : ∃ gW cW, w.cell? ⟨g, 1, none⟩ = some (.slice (some ⟨gW, 0, none⟩) 44 cW) ∧ ∀ i, i < 44 → ∃ f c, w.cell? ⟨gW, i, none⟩ = some (.slice (some ⟨f, 0, none⟩) 4 c) ∧ ∀ k, k < 4 → w.cell? ⟨f, k, none⟩ = some (.int .u8 (W.getD (4 * i + k) 0 : Nat)) := by
 obtain ⟨gB, cB, vW, h1, h2, h3⟩ := h
 obtain ⟨gW, cW, rfl, _, _, hr⟩ := h3.form (rowsW_len W 44) (by omega)
 refine ⟨gW, cW, by rw [heap_cell h1]; rfl, fun i hi => ?_⟩
 obtain ⟨x, hx, O⟩ := hr i hi
 rw [rowsW_get W 44 i hi] at O
 obtain ⟨f, c, rfl, _, _, _, _, hc, _⟩ := O.form (n := 4) (by rw [vb_len]; rfl) (by omega)
 exact ⟨f, c, hx, fun k hk => by rw [hc k hk, vb_get _ _ (by simpa [rowW] using hk), rowW_get W i k hk]⟩
theorem RC.box {w : World} {g : Nat} {W : List Nat} (h : RC w g W) : ∃ gB cB, w.cell? ⟨g, 0, none⟩ = some (.slice (some ⟨gB, 0, none⟩) 256 cB) ∧ ∀ i, i < 256 → w.cell? ⟨gB, i, none⟩ = some (.int .u8 (sbox.getD i 0 : Nat)) := by
 obtain ⟨gB, cB, vW, h1, h2, h3⟩ := h
 exact ⟨gB, cB, by rw [heap_cell h1]; rfl, fun i hi => row_cell h2 i (by rw [sbox_len]; exact hi)⟩
end Go.Proofs.YtikmhlbpefednaaGreat
