/-  -/
import Derived.Test.YtojedpahaifjgaaGBa
namespace Go.Proofs.Ytojedpahaifjgaa
open Go.RowKit
section
variable (bb bo ln cp at_ : Nat) (x z : Int) (e a c : Nat) (w : World) (he : w.cell? ⟨e, 0, none⟩ = some (.int .i64 0)) (ha : w.cell? ⟨a, 0, none⟩ = some (.int .i64 at_)) (hb : w.cell? ⟨c, 0, none⟩ = some (.slice (some ⟨bb, bo, none⟩) ln cp))
include he ha hb
theorem next_ok (hf : w.frozen? ⟨a, 0, none⟩ = false) (hac : a ≠ c) (hal : a ≠ bb) (hl : at_ < ln) (hm : ln ≤ 9223372036854775807) (hx : w.cell? ⟨bb, bo + at_, none⟩ = some (.int .u8 x)) (hz : (bits .and .u8 x z != 0) = false) :
  Calls Try.prog 89 #[.int .u8 z, .pointer (some ⟨e, 0, none⟩), .pointer (some ⟨a, 0, none⟩), .pointer (some ⟨c, 0, none⟩)] w fun e w' => e = .returned (.int .u8 x) ∧ w' = w.setCell ⟨a, 0, none⟩ (.int .i64 (at_ + 1)) := by
 have h1 : (w.setCell ⟨a, 0, none⟩ (.int .i64 (at_ + 1))).cell? ⟨bb, bo + at_, none⟩ = some (.int .u8 x) := (World.cell?_setCell_other w _ _ _ (by simp [hal])).trans hx
 have h2 : (w.setCell ⟨a, 0, none⟩ (.int .i64 (at_ + 1))).cell? ⟨c, 0, none⟩ = some (.slice (some ⟨bb, bo, none⟩) ln cp) := (World.cell?_setCell_other w _ _ _ (by simp [hac])).trans hb
 clear hac hal
 go_enter Try.func89, Try.ntmps89
 go_wp2
 go_ret
 exact ⟨rfl, rfl⟩
theorem next_form (hf : w.frozen? ⟨e, 0, none⟩ = false) (hl : at_ < ln) (hx : w.cell? ⟨bb, bo + at_, none⟩ = some (.int .u8 x)) (hz : (bits .and .u8 x z != 0) = true) :
  Calls Try.prog 89 #[.int .u8 z, .pointer (some ⟨e, 0, none⟩), .pointer (some ⟨a, 0, none⟩), .pointer (some ⟨c, 0, none⟩)] w fun r w' => r = .returned (.int .u8 0) ∧ w' = w.setCell ⟨e, 0, none⟩ (.int .i64 3) := by
 go_enter Try.func89, Try.ntmps89
 go_wp2
 go_ret
 exact ⟨rfl, rfl⟩
omit hb
theorem next_short (s : Option Addr) (hb : w.cell? ⟨c, 0, none⟩ = some (.slice s ln cp)) (hf : w.frozen? ⟨e, 0, none⟩ = false) (hl : ln ≤ at_) :
  Calls Try.prog 89 #[.int .u8 z, .pointer (some ⟨e, 0, none⟩), .pointer (some ⟨a, 0, none⟩), .pointer (some ⟨c, 0, none⟩)] w fun r w' => r = .returned (.int .u8 0) ∧ w' = w.setCell ⟨e, 0, none⟩ (.int .i64 2) := by
 go_enter Try.func89, Try.ntmps89
 go_wp2
 go_ret
 exact ⟨rfl, rfl⟩
end
theorem next_err (z er : Int) (e a c : Nat) (w : World) (he : w.cell? ⟨e, 0, none⟩ = some (.int .i64 er)) (h : (er != 0) = true) :
  Calls Try.prog 89 #[.int .u8 z, .pointer (some ⟨e, 0, none⟩), .pointer (some ⟨a, 0, none⟩), .pointer (some ⟨c, 0, none⟩)] w fun r w' => r = .returned (.int .u8 0) ∧ w' = w := by
 go_enter Try.func89, Try.ntmps89
 go_wp2
 go_ret
 exact ⟨rfl, rfl⟩
def nx (l : List Int) (er : Int) (at_ : Nat) (z : Int) : Int × Nat × Int :=
 if er ≠ 0 then (er, at_, 0) else if l.length ≤ at_ then (2, at_, 0) else if bits .and .u8 (l.getD at_ 0) z ≠ 0 then (3, at_, 0) else (0, at_ + 1, l.getD at_ 0)
theorem next_any (l : List Int) (sa : Option Addr) (ln cp at_ : Nat) (z er : Int) (e a c : Nat) (w : World) (hl : SlB w sa ln cp l) (hle : ∀ b o, sa = some ⟨b, o, none⟩ → 0 < ln → e ≠ b ∧ a ≠ b) (hec : e ≠ a) (hac : a ≠ c)
  (he : w.cell? ⟨e, 0, none⟩ = some (.int .i64 er)) (ha : w.cell? ⟨a, 0, none⟩ = some (.int .i64 at_)) (hb : w.cell? ⟨c, 0, none⟩ = some (.slice sa ln cp))
  (hfe : w.frozen? ⟨e, 0, none⟩ = false) (hfa : w.frozen? ⟨a, 0, none⟩ = false) :
  Calls Try.prog 89 #[.int .u8 z, .pointer (some ⟨e, 0, none⟩), .pointer (some ⟨a, 0, none⟩), .pointer (some ⟨c, 0, none⟩)] w fun r w' =>
   r = .returned (.int .u8 (nx l er at_ z).2.2) ∧ w' = (w.setCell ⟨e, 0, none⟩ (.int .i64 (nx l er at_ z).1)).setCell ⟨a, 0, none⟩ (.int .i64 ((nx l er at_ z).2.1 : Nat)) := by
 have ha1 : ∀ v, (w.setCell ⟨e, 0, none⟩ v).cell? ⟨a, 0, none⟩ = some (.int .i64 at_) := fun v => (World.cell?_setCell_other w _ _ _ (by simp [hec])).trans ha
 obtain ⟨h1, h2, h3, h4, h5⟩ := hl
 unfold nx
 by_cases h : er ≠ 0
 ·rw [if_pos h]
  refine (next_err z er e a c w he (by simpa using h)).mono fun r w' ⟨hr, hw⟩ => ⟨hr, ?_⟩
  rw [hw, setCell_self he, setCell_self ha]
 rw [if_neg h]
 have h0 : er = 0 := by omega
 subst h0
 by_cases hn : l.length ≤ at_
 ·rw [if_pos hn]
  refine (next_short ln cp at_ z e a c w he ha sa hb hfe (by omega)).mono fun r w' ⟨hr, hw⟩ => ⟨hr, ?_⟩
  rw [hw]
  exact (setCell_self (ha1 _)).symm
 rw [if_neg hn]
 rcases h5 with h5 | ⟨b, o, rfl, hlt, hc⟩
 ·omega
 obtain ⟨heb, hab⟩ := hle b o rfl (by omega)
 have hx := hc at_ (by omega)
 by_cases hz : bits .and .u8 (l.getD at_ 0) z ≠ 0
 ·rw [if_pos hz]
  refine (next_form b o ln cp at_ _ z e a c w he ha hb hfe (by omega) hx (by simpa using hz)).mono fun r w' ⟨hr, hw⟩ => ⟨hr, ?_⟩
  rw [hw]
  exact (setCell_self (ha1 _)).symm
 ·rw [if_neg hz]
  refine (next_ok b o ln cp at_ _ z e a c w he ha hb hfa hac hab (by omega) (by unfold maxLen at h3; omega) hx (by simpa using hz)).mono fun r w' ⟨hr, hw⟩ => ⟨hr, ?_⟩
  rw [hw]
  dsimp only
  rw [setCell_self he]
  rfl
end Go.Proofs.Ytojedpahaifjgaa
