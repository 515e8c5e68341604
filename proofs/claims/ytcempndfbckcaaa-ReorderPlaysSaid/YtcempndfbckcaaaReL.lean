/- Packets put into order: Tick. No condition but the sizes'. -/
import Derived.Test.YtcempndfbckcaaaReK
import Derived.Test.YtcempndfbckcaaaReQ
namespace Go.Proofs.Ytcempndfbckcaaa
open Go.RowKit

theorem slKp : SlTy Try.prog 66 70 2 32 := SlTy.mk' Try.underlying66 (by kernel_rfl) (by decide)
/-- A buffer, and what the program keeps of it. -/
structure BufI (w : World) (base g0 : Nat) (sa : Option Addr) (cv : Nat) (S : BS) (H : List Ent) : Prop where
  hp : HpB w g0 (.cells (bufC S.many S.wait S.next (.slice sa S.L.length cv) S.passed S.dropped) 128)
  eq : EQ EN 131 w base (.slice sa S.L.length cv) S.L.length H
  hh : Hp S.L.length (kE H)
  pm : S.L.Perm H
  ok : BOk S
  ow : (Value.slice sa S.L.length cv).ownBlock ≠ some g0
theorem BufI.bw {w w' : World} {base g0 sa cv S H} (h : BufI w base g0 sa cv S H) (b : BW w w') : BufI w' base g0 sa cv S H := ⟨h.hp.bw b, h.eq.bw b, h.hh, h.pm, h.ok, h.ow⟩
theorem lateS_eq {S : BS} {H : List Ent} {tick : Int} (h : S.L.Perm H) : lateL S.many tick S.wait H = lateS S tick := by
  unfold lateL lateS
  rw [h.length_eq, Bool.eq_iff_iff]
  simp only [Bool.or_eq_true, List.any_eq_true]
  constructor
  · rintro (h1 | ⟨x, hx, h2⟩)
    · exact .inl h1
    · exact .inr ⟨x, h.mem_iff.2 hx, h2⟩
  · rintro (h1 | ⟨x, hx, h2⟩)
    · exact .inl h1
    · exact .inr ⟨x, h.mem_iff.1 hx, h2⟩
theorem BufI.first {w : World} {base g0 sa cv S H} (h : BufI w base g0 sa cv S H) (h0 : 0 < S.L.length) (hH : 0 < H.length) : H[0] = S.top := by
  obtain ⟨a, t, rfl⟩ : ∃ a t, H = a :: t := by
    cases H with
    | nil => simp at hH
    | cons a t => exact ⟨a, t, rfl⟩
  refine (least_same h0 h.pm h.ok.nd (.refl _) (fun x hx => ?_)).1
  obtain ⟨k, hk, rfl⟩ := List.getElem_of_mem hx
  have h1 := h.hh.least k (by rw [h.pm.length_eq]; exact hk)
  unfold kE at h1
  rw [kf_get (by simp), kf_get hk] at h1
  exact h1
/-- One popped. -/
theorem bpop_st (base g0 cv : Nat) (sa : Option Addr) (S : BS) (H : List Ent) (h0 : 0 < S.L.length) (hn : S.L.length ≤ 1000000) (w : World) (h : BufI w base g0 sa cv S H) :
    Calls Try.prog 78 #[.pointer (some ⟨g0, 0, none⟩)] w fun e w' => ∃ H' s cb, e = .returned (.agg #[.int .i64 S.top.i, .slice s S.top.b.length cb]) ∧ OB w' base 5 (.slice s S.top.b.length cb) S.top.b.length S.top.b ∧ BufI w' base g0 sa cv (takeS S) H' ∧ Still (g0 :: (Value.slice sa S.L.length cv).ownBlock.toList) w w' := by
  obtain ⟨hp, heq, hh, hpm, hok, how⟩ := h
  obtain ⟨g, o, rfl, hgb, -⟩ := en_form heq h0
  have hl := take_len h0
  have hg : g0 ≠ g := fun e => how (by simp [Value.ownBlock, e])
  obtain ⟨n, hn'⟩ : ∃ n, S.L.length = n + 1 := ⟨S.L.length - 1, by omega⟩
  rw [hn'] at hp heq hh hl
  have hnx := hok.nx
  have hpa := hok.pa
  refine (bpop_any base g0 g o cv n S.many S.wait S.next S.passed S.dropped H (by omega) w hg hp heq hh (fun x hx => ?_) hnx (by omega)).mono ?_
  · have := hok.ix x (hpm.mem_iff.2 hx)
    exact ⟨this.1, this.2.1⟩
  · rintro e w' ⟨E, H', s, cb, rfl, p1, p2, h3, O3, P3, Q3, T3⟩
    obtain ⟨rfl, p4⟩ := least_same h0 hpm hok.nd p1 p2
    refine ⟨H', s, cb, rfl, O3, ⟨?_, ?_, ?_, p4, take_ok h0 hok, ?_⟩, T3.weaken (fun k hk => by simpa [Value.ownBlock] using hk)⟩
    · rw [show (takeS S).L.length = n by omega]; exact P3
    · rw [show (takeS S).L.length = n by omega]; exact Q3
    · rw [show (takeS S).L.length = n by omega]; exact h3
    · simpa [Value.ownBlock] using fun e => hg e.symm
end Go.Proofs.Ytcempndfbckcaaa
