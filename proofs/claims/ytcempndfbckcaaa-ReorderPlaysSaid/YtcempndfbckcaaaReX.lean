/- Packets put into order: Put of any index. No condition but the sizes'. -/
import Derived.Test.YtcempndfbckcaaaReW
namespace Go.Proofs.Ytcempndfbckcaaa
open Go.RowKit

set_option maxRecDepth 100000 in
set_option maxHeartbeats 8000000 in
theorem put_any (base g0 cv n cb : Nat) (sa sb : Option Addr) (S : BS) (H : List Ent) (i tick : Int) (b : List Nat) (many d : Int) (hk : BK S many d) (hm : many ≤ 64) (hd : d ≤ 1000) (hi : i ≤ 1152921504606846976) (ht : -1152921504606846976 ≤ tick ∧ tick ≤ 1152921504606846976) (hnl : b.length = n) (hnm : n ≤ 1000000) (w : World) (hb0 : base ≤ w.heap.size) (h : BufI w base g0 sa cv S H) (hV : SB w (.slice sb n cb) n b) :
    Calls Try.prog 36 #[.pointer (some ⟨g0, 0, none⟩), .int .i64 i, .int .i64 tick, .slice sb n cb] w fun e w' => PutPost base g0 sa S.L.length cv (putS i tick b S) w e w' := by
  have hrm := hk.rm
  have hdr := hk.dr
  obtain ⟨R, hR⟩ : ∃ R, putS i tick b S = R := ⟨_, rfl⟩
  rw [hR]
  unfold putS at hR
  by_cases h1 : i < 0
  · rw [if_pos h1] at hR
    subst hR
    refine (put_neg g0 i tick h1 _ w).mono ?_
    rintro e w' ⟨rfl, B⟩
    exact ⟨H, sa, cv, none, 0, rfl, EQ.nil _ _ _ _, h.bw B, B.still _, fun j => ⟨fun hj => .inl hj, fun hj => by cases hj⟩⟩
  rw [if_neg h1] at hR
  by_cases h2 : S.next < 0
  · rw [if_neg (by omega), if_pos h2] at hR
    exact put_first base g0 cv n cb sa sb S H i tick b R ⟨by omega, hi⟩ h2 (by omega) ht hnl hnm hR.symm w hb0 h hV
  have hW : ∀ {e : Ending} {w' : World}, e = .returned (.tuple #[.slice none 0 0, .int .i64 5]) ∧ BufI w' base g0 sa cv { S with dropped := S.dropped + 1 } H ∧ Still [g0] w w' → PutPost base g0 sa S.L.length cv ({ S with dropped := S.dropped + 1 }, [], 5) w e w' := fun ⟨e, I, T⟩ =>
    ⟨H, sa, cv, none, 0, e, EQ.nil _ _ _ _, I, T.weaken (fun k hk => by obtain rfl : k = g0 := (by simpa using hk); exact List.mem_cons_self), fun j => ⟨fun hj => .inl hj, fun hj => by cases hj⟩⟩
  by_cases h3 : i < S.next
  · rw [if_pos ⟨by omega, .inl h3⟩] at hR
    subst hR
    exact (put_below base g0 cv sa S H i tick (by omega) (by omega) h3 ⟨hdr.1, by omega⟩ _ w h).mono fun e w' h => hW h
  cases h4 : S.L.any (isE i) with
  | true =>
    rw [if_pos ⟨by omega, .inr h4⟩] at hR
    subst hR
    exact (put_dup base g0 cv sa S H i tick (by omega) (by omega) (by omega) h4 (by omega) ⟨hdr.1, by omega⟩ _ w h).mono fun e w' h => hW h
  | false =>
    rw [if_neg (by rintro ⟨-, h5 | h5⟩; exact h3 h5; rw [h4] at h5; cases h5), if_neg h2] at hR
    exact put_new base g0 cv n cb sa sb S H i tick b R ⟨by omega, hi⟩ (by omega) (by omega) h4 (by omega) ht hnl hnm hR.symm w hb0 h hV
end Go.Proofs.Ytcempndfbckcaaa
