/- The law OfferReads: the walk. No condition beyond the row's own. -/
import Derived.Test.YtafhnlnhflehhaaGreatDoorOhY
import Derived.Test.YtafhnlnhflehhaaGreatDoorOhH
import Derived.Test.YtafhnlnhflehhaaGreatDoorOfZ
import Derived.Test.YtafhnlnhflehhaaGreatDoorOiN
namespace Go.Proofs.YtafhnlnhflehhaaGreatDoor
open Go.RowKit
theorem zero_off (w : World) : OffV w #[.int .i64 0, .slice none 0 0, .slice none 0 0] ⟨0, [], []⟩ none 0 none 0 := ⟨rfl, ewo_ewi (T := 41) (EQ.nil _ _ w 0), ehe_zero (T := 43) (EQ.nil _ _ w 0)⟩
theorem OffV.cells {w : World} {cs : Array Value} {d : OffD} {sW : Option Addr} {cW : Nat} {sH : Option Addr} {cH : Nat} (h : OffV w cs d sW cW sH cH) : cs.size = 3 ∧ cs.all (·.oneCell') = true := by
 obtain ⟨rfl, -, -⟩ := h
 exact ⟨rfl, by simp [offC, Value.oneCell']⟩
theorem RdRes.form {S : ByteArray} {w : World} {e : Ending} (h : RdRes S w e) : ∃ cs er d sW cW sH cH, e = .returned (.tuple #[.agg cs, .int .i64 er]) ∧ OffV w cs d sW cW sH cH ∧ ((er = 0 ∧ MayO d ∧ S.data.toList = offT d) ∨ (er = 3 ∧ (∀ o, MayO o → S.data.toList ≠ offT o) ∧ d = ⟨0, [], []⟩)) := by
 rcases h with ⟨d, cs, sW, cW, sH, cH, h1, h2, h3, rfl⟩ | ⟨h1, rfl⟩
 ·exact ⟨cs, 0, d, sW, cW, sH, cH, rfl, h3, .inl ⟨rfl, h1, h2⟩⟩
 ·exact ⟨_, 3, _, _, _, _, _, rfl, zero_off w, .inr ⟨rfl, h1, rfl⟩⟩
theorem RfRes.form {S : ByteArray} {w : World} {e : Ending} (h : RfRes S w e) : ∃ cs ok d sW cW sH cH, e = .returned (.tuple #[.agg cs, .bool ok]) ∧ OffV w cs d sW cW sH cH ∧ ((ok = true ∧ MayO d ∧ S.data.toList = offT d) ∨ (ok = false ∧ (∀ o, MayO o → S.data.toList ≠ offT o) ∧ d = ⟨0, [], []⟩)) := by
 rcases h with ⟨d, cs, sW, cW, sH, cH, h1, h2, h3, rfl⟩ | ⟨h1, rfl⟩
 ·exact ⟨cs, true, d, sW, cW, sH, cH, rfl, h3, .inl ⟨rfl, h1, h2⟩⟩
 ·exact ⟨_, false, _, _, _, _, _, rfl, zero_off w, .inr ⟨rfl, h1, rfl⟩⟩
end Go.Proofs.YtafhnlnhflehhaaGreatDoor
