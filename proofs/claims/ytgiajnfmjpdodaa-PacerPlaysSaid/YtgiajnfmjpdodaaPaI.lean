/- pacer.Tick. No condition but the sizes'. -/
import Derived.Test.YtgiajnfmjpdodaaPaF
namespace Go.Proofs.Ytgiajnfmjpdodaa
open Go.RowKit

set_option maxRecDepth 100000 in
set_option maxHeartbeats 8000000 in
theorem ptick_any (base g gb : Nat) (vs : List Value) (S : PcS) (w : World) (h : PacV w base g gb vs S) (hr : 0 ≤ S.rate) (hh0 : 0 ≤ S.hav) (hh1 : S.hav ≤ 18446744073709551615) :
    Calls Try.prog 27 #[.pointer (some ⟨g, 0, none⟩)] w fun e w' => e = .returned (.tuple #[]) ∧ PacV w' base g gb vs { S with hav := giveN S.burst S.hav S.rate } ∧ Still [gb] w w' := by
  have hH := Lib.hid h
  have z0 : w.cell? ⟨g, 0, none⟩ = some (.pointer (some ⟨gb, 0, none⟩)) := hp_cell h.cells 0
  have c := Lib.hid (tick_any gb S.rate S.burst S.hav w h.bk hr hh0 hh1)
  clear h
  go_enter Try.func27, Try.ntmps27
  go_wp2_with fail
  refine Calls.mono c.out ?_
  rintro e w1 ⟨rfl, wa, hb, rfl⟩
  have B : BW w wa := hb
  have H2 := Lib.hid ((hH.out.bw B).take (giveN S.burst S.hav S.rate))
  have T2 := Lib.hid ((B.still [gb]).trans (still_setCP wa gb 2 (.int .u64 (giveN S.burst S.hav S.rate))))
  clear c hb
  dsimp only
  go_wp2_with fail
  go_end0
  exact ⟨rfl, H2.out, T2.out⟩
end Go.Proofs.Ytgiajnfmjpdodaa
