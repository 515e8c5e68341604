/- A house of rooms, as plain data: what a frame does, said as far as the laws look at it. Nothing of the program; no condition. -/
import Derived.Test.YtebeifkgjhgmeaaRmQ
namespace Go.Proofs.Ytebeifkgjhgmeaa
inductive OpRel (H : List Mem) (s : Nat) (m : Mem) : List Mem → Nat → Int → Prop
 | refuse (c : Nat) (h : c ≠ 0) : OpRel H s m H c 0
 | join (h : m.r < 0) (r v : Int) (hr : 0 ≤ r) : OpRel H s m (H.set s { m with r := r }) 0 v
 | leave (v : Int) : OpRel H s m ((H.mapIdx fun i m => dropM (fun x => i == s || ofO s x) m).set s { mem0 with n := m.n }) 0 v
 | publish (t : Int) (ht : t = 0 ∨ t = 1) (h : (m.tk t).is = false) (x : Trk) (v : Int) (hx : x.p.length ≤ 4) : OpRel H s m (H.set s (m.setTk t x)) 0 v
 | unpublish (t : Int) (ht : t = 0 ∨ t = 1) (v : Int) : OpRel H s m ((H.set s (m.setTk t trk0)).mapIdx fun _ m => dropM (ofT s t) m) 0 v
 | sub (x : Sbs) (hn : m.subs.length < 4) (hx : SubOk H s m.r x) (hf : x.s ∉ m.subs.map Sbs.s) (v : Int) : OpRel H s m (H.set s { m with subs := m.subs ++ [x] }) 0 v
 | unsub (p : Sbs → Bool) (v : Int) : OpRel H s m (H.set s (dropM p m)) 0 v
 | layer (i : Nat) (hi : i < m.subs.length) (l : Int) (h0 : -1 ≤ l) (hl : ∀ (k : Nat) (q : Mem), (m.subs[i]).o = (k : Int) → H[k]? = some q → l < (q.tk (m.subs[i]).t).p.length) (v : Int) : OpRel H s m (H.set s { m with subs := m.subs.set i { m.subs[i] with l := l } }) 0 v
 | reset (v : Int) : OpRel H s m H 0 v
theorem OpRel.ok {H H' : List Mem} {s : Nat} {m : Mem} {c : Nat} {v : Int} (h : OpRel H s m H' c v) (hm : H[s]? = some m) (ok : HouseOk H) : HouseOk H' := by
 cases h with
 | refuse c h => exact ok
 | join h r v hr => exact ok.join s hm h r
 | leave v => exact ok.leave s hm m.n
 | publish t ht h x v hx => exact ok.publish s hm t ht h x
 | unpublish t ht v => exact ok.unpublish s hm t ht
 | sub x hn hx hf v => exact ok.sub s hm x hn hx hf
 | unsub p v => exact ok.unsub s hm p
 | layer i hi l h0 hl v => exact ok.layer s hm i hi l h0 hl
 | reset v => exact ok
theorem OpRel.len {H H' : List Mem} {s : Nat} {m : Mem} {c : Nat} {v : Int} (h : OpRel H s m H' c v) : H'.length = H.length := by
 cases h <;> simp
theorem OpRel.no {H H' : List Mem} {s : Nat} {m : Mem} {c : Nat} {v : Int} (h : OpRel H s m H' c v) (hc : c ≠ 0) : H' = H ∧ v = 0 := by
 cases h <;> first | exact ⟨rfl, rfl⟩ | exact absurd rfl hc
inductive DoRel (H : List Mem) (st : Int) (n : Nat) : List Mem → Nat → Int → Prop
 | none (h : ¬ (0 ≤ st ∧ st < H.length)) : DoRel H st n H 9 0
 | old (s : Nat) (m : Mem) (hs : st = (s : Int)) (hm : H[s]? = some m) (h : n ≤ m.n) : DoRel H st n H 5 0
 | op (s : Nat) (m : Mem) (hs : st = (s : Int)) (hm : H[s]? = some m) (h : m.n < n) (H' : List Mem) (c : Nat) (v : Int) (ho : OpRel (H.set s { m with n := n }) s { m with n := n } H' c v) : DoRel H st n H' c v
theorem DoRel.ok {H H' : List Mem} {st : Int} {n c : Nat} {v : Int} (h : DoRel H st n H' c v) (ok : HouseOk H) : HouseOk H' := by
 cases h with
 | none h => exact ok
 | old s m hs hm h => exact ok
 | op s m hs hm h _ _ _ ho => exact ho.ok (List.getElem?_set_self (List.getElem?_eq_some_iff.1 hm).1) (ok.nonce s hm n)
theorem DoRel.len {H H' : List Mem} {st : Int} {n c : Nat} {v : Int} (h : DoRel H st n H' c v) : H'.length = H.length := by
 cases h with
 | none h => rfl
 | old s m hs hm h => rfl
 | op s m hs hm h _ _ _ ho => rw [ho.len, List.length_set]
theorem DoRel.no {H H' : List Mem} {st : Int} {n c : Nat} {v : Int} (h : DoRel H st n H' c v) (hc : c ≠ 0) : v = 0 ∧ ∀ (i : Nat) (m' : Mem), H'[i]? = some m' → ∃ m, H[i]? = some m ∧ { m' with n := m.n } = m := by
 cases h with
 | none h => exact ⟨rfl, fun i m' hi => ⟨m', hi, rfl⟩⟩
 | old s m hs hm h => exact ⟨rfl, fun i m' hi => ⟨m', hi, rfl⟩⟩
 | op s m hs hm h _ _ _ ho =>
  obtain ⟨rfl, rfl⟩ := ho.no hc
  refine ⟨rfl, fun i m' hi => ?_⟩
  by_cases e : i = s
  ·subst e
   rw [List.getElem?_set_self (List.getElem?_eq_some_iff.1 hm).1] at hi
   obtain rfl := Option.some.inj hi
   exact ⟨m, hm, rfl⟩
  ·rw [List.getElem?_set_ne (Ne.symm e)] at hi
   exact ⟨m', hi, rfl⟩
def Ok2 (H : List Mem) : Prop := ∀ m ∈ H, -1 ≤ m.r ∧ m.a.p.length ≤ 4 ∧ m.b.p.length ≤ 4
theorem Ok2.set {H : List Mem} (h : Ok2 H) (i : Nat) (m : Mem) (hm : -1 ≤ m.r ∧ m.a.p.length ≤ 4 ∧ m.b.p.length ≤ 4) : Ok2 (H.set i m) := fun q hq => by
 rcases List.mem_or_eq_of_mem_set hq with hq | rfl
 ·exact h q hq
 ·exact hm
theorem Ok2.drop {H : List Mem} (h : Ok2 H) (p : Nat → Sbs → Bool) : Ok2 (H.mapIdx fun i m => dropM (p i) m) := fun q hq => by
 obtain ⟨i, hi, rfl⟩ := List.mem_iff_getElem.1 hq
 rw [List.getElem_mapIdx]
 have hi2 : i < H.length := by simpa using hi
 exact h H[i] (List.getElem_mem hi2)
theorem Ok2.tk {m : Mem} (h : -1 ≤ m.r ∧ m.a.p.length ≤ 4 ∧ m.b.p.length ≤ 4) (t : Int) (x : Trk) (hx : x.p.length ≤ 4) : -1 ≤ (m.setTk t x).r ∧ (m.setTk t x).a.p.length ≤ 4 ∧ (m.setTk t x).b.p.length ≤ 4 := by
 unfold Mem.setTk
 split
 ·exact ⟨h.1, hx, h.2.2⟩
 ·exact ⟨h.1, h.2.1, hx⟩
theorem OpRel.ok2 {H H' : List Mem} {s : Nat} {m : Mem} {c : Nat} {v : Int} (h : OpRel H s m H' c v) (hm : H[s]? = some m) (ok : Ok2 H) : Ok2 H' := by
 have hq := ok m (List.mem_of_getElem? hm)
 cases h with
 | refuse c h => exact ok
 | join h r v hr => exact ok.set s _ ⟨by show -1 ≤ r; omega, hq.2⟩
 | leave v => exact (ok.drop fun i x => i == s || ofO s x).set s _ (show -1 ≤ mem0.r ∧ mem0.a.p.length ≤ 4 ∧ mem0.b.p.length ≤ 4 by decide)
 | publish t ht h x v hx => exact ok.set s _ (Ok2.tk hq t x hx)
 | unpublish t ht v => exact (ok.set s _ (Ok2.tk hq t trk0 (by decide))).drop fun _ => ofT s t
 | sub x hn hx hf v => exact ok.set s _ hq
 | unsub p v => exact ok.set s _ hq
 | layer i hi l h0 hl v => exact ok.set s _ hq
 | reset v => exact ok
theorem DoRel.ok2 {H H' : List Mem} {st : Int} {n c : Nat} {v : Int} (h : DoRel H st n H' c v) (ok : Ok2 H) : Ok2 H' := by
 cases h with
 | none h => exact ok
 | old s m hs hm h => exact ok
 | op s m hs hm h _ _ _ ho => exact ho.ok2 (List.getElem?_set_self (List.getElem?_eq_some_iff.1 hm).1) (ok.set s _ (ok m (List.mem_of_getElem? hm)))
theorem Ok2.new (n : Nat) : Ok2 (List.replicate n mem0) := fun m hm => by
 obtain rfl := List.eq_of_mem_replicate hm
 exact ⟨by decide, by decide, by decide⟩
theorem HouseOk.new (n : Nat) : HouseOk (List.replicate n mem0) := by
 intro s m hm
 obtain rfl := List.eq_of_mem_replicate (List.mem_of_getElem? hm)
 exact ⟨Nat.zero_le _, (fun x hx => by cases hx), List.nodup_nil⟩
end Go.Proofs.Ytebeifkgjhgmeaa
