/- Packets put into order: the plain state, one taken, what a tick tells. Plain law. -/
import Derived.Test.YtcempndfbckcaaaReP
namespace Go.Proofs.Ytcempndfbckcaaa

/-- The plain state: what waits, as it came. -/
structure BS where
  many : Int
  wait : Int
  next : Int
  L : List Ent
  passed : Int
  dropped : Int
def BS.top (S : BS) : Ent := S.L.getD (leastI S.L) d0E
def takeS (S : BS) : BS := { S with next := S.top.i + 1, L := S.L.eraseIdx (leastI S.L), passed := S.passed + (S.top.i - S.next) }
def lateS (S : BS) (tick : Int) : Bool := decide (S.many < (S.L.length : Nat)) || S.L.any fun E => decide (S.wait < tick - E.c)
def mayS (S : BS) (tick : Int) : Bool := decide (0 < S.L.length) && (S.top.i == S.next || lateS S tick)
def tickS (tick : Int) : Nat → BS → BS × List (Int × List Nat)
  | 0, S => (S, [])
  | k + 1, S => if mayS S tick then ((tickS tick k (takeS S)).1, (S.top.i, S.top.b) :: (tickS tick k (takeS S)).2) else (S, [])
def flushS : Nat → BS → BS × List (Int × List Nat)
  | 0, S => (S, [])
  | k + 1, S => if 0 < S.L.length then ((flushS k (takeS S)).1, (S.top.i, S.top.b) :: (flushS k (takeS S)).2) else (S, [])
structure BOk (S : BS) : Prop where
  ix : ∀ x ∈ S.L, 0 ≤ x.i ∧ x.i ≤ 1152921504606846976 ∧ S.next ≤ x.i
  ca : ∀ x ∈ S.L, -1152921504606846976 ≤ x.c ∧ x.c ≤ 1152921504606846976
  nd : (S.L.map Ent.i).Nodup
  nx : -1 ≤ S.next ∧ S.next ≤ 1152921504606846977
  st : 0 < S.L.length → 0 ≤ S.next
  pa : 0 ≤ S.passed ∧ S.passed ≤ max S.next 0
theorem top_mem {S : BS} (h : 0 < S.L.length) : S.top ∈ S.L := by
  have := leastI_lt h
  unfold BS.top
  rw [show S.L.getD (leastI S.L) d0E = S.L[leastI S.L] by simp [List.getD_eq_getElem?_getD, this]]
  exact List.getElem_mem this
theorem take_perm {S : BS} (h : 0 < S.L.length) : S.L.Perm (S.top :: (takeS S).L) := by
  have := leastI_lt h
  have h2 := perm_eraseIdx this
  unfold BS.top takeS
  rwa [show S.L.getD (leastI S.L) d0E = S.L[leastI S.L] by simp [List.getD_eq_getElem?_getD, this]]
theorem take_len {S : BS} (h : 0 < S.L.length) : (takeS S).L.length + 1 = S.L.length := by
  have := (take_perm h).length_eq
  simpa using this.symm
theorem take_ok {S : BS} (h : 0 < S.L.length) (k : BOk S) : BOk (takeS S) := by
  have hp := take_perm h
  have hm : ∀ x ∈ (takeS S).L, x ∈ S.L := fun x hx => hp.mem_iff.2 (List.mem_cons_of_mem _ hx)
  have ht := k.ix _ (top_mem h)
  have hnd : ((S.top :: (takeS S).L).map Ent.i).Nodup := (hp.map Ent.i).nodup_iff.1 k.nd
  rw [List.map_cons, List.nodup_cons] at hnd
  have hs := k.st h
  have hp2 := k.pa
  refine ⟨fun x hx => ?_, fun x hx => k.ca x (hm x hx), hnd.2, ?_, ?_, ?_⟩
  · have h1 := k.ix x (hm x hx)
    have h2 : S.top.i ≤ x.i := leastI_le x (hm x hx)
    have h3 : S.top.i ≠ x.i := fun e => hnd.1 (e ▸ List.mem_map_of_mem hx)
    refine ⟨h1.1, h1.2.1, ?_⟩
    show S.top.i + 1 ≤ x.i
    omega
  · show -1 ≤ S.top.i + 1 ∧ S.top.i + 1 ≤ 1152921504606846977
    omega
  · intro _
    show 0 ≤ S.top.i + 1
    omega
  · show 0 ≤ S.passed + (S.top.i - S.next) ∧ S.passed + (S.top.i - S.next) ≤ max (S.top.i + 1) 0
    omega
end Go.Proofs.Ytcempndfbckcaaa
