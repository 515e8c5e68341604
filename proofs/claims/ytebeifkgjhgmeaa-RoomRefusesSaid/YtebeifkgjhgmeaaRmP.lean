/- A house of rooms, as plain data: what a frame turns, and what stays true. Nothing of the program; no condition. -/
namespace Go.Proofs.Ytebeifkgjhgmeaa
structure Sbs where
 o : Int
 t : Int
 l : Int
 s : Nat
structure Trk where
 is : Bool
 c : Int
 p : List Int
structure Mem where
 r : Int
 a : Trk
 b : Trk
 subs : List Sbs
 n : Nat
def trk0 : Trk := ⟨false, 0, []⟩
def mem0 : Mem := ⟨-1, trk0, trk0, [], 0⟩
def Mem.tk (m : Mem) (t : Int) : Trk := if t = 0 then m.a else m.b
def Mem.setTk (m : Mem) (t : Int) (x : Trk) : Mem := if t = 0 then { m with a := x } else { m with b := x }
def skel (m : Mem) : Int × Trk × Trk := (m.r, m.a, m.b)
structure SubOk (H : List Mem) (s : Nat) (r : Int) (x : Sbs) : Prop where
 o : ∃ k : Nat, x.o = (k : Int) ∧ k ≠ s ∧ ∃ m, H[k]? = some m ∧ m.r = r ∧ (m.tk x.t).is = true ∧ x.l < (m.tk x.t).p.length
 t : x.t = 0 ∨ x.t = 1
 l : -1 ≤ x.l
 r : 0 ≤ r
 s : 1048576 + 16 * s ≤ x.s ∧ x.s < 1048576 + 16 * s + 16
structure MemOk (H : List Mem) (s : Nat) (m : Mem) : Prop where
 n : m.subs.length ≤ 4
 x : ∀ x ∈ m.subs, SubOk H s m.r x
 d : (m.subs.map Sbs.s).Nodup
def HouseOk (H : List Mem) : Prop := ∀ (s : Nat) (m : Mem), H[s]? = some m → MemOk H s m
theorem skel_tk {m m' : Mem} (h : skel m = skel m') (t : Int) : m.tk t = m'.tk t := by
 simp only [skel, Prod.mk.injEq] at h
 unfold Mem.tk
 rw [h.2.1, h.2.2]
theorem SubOk.skel {H H' : List Mem} {s : Nat} {r : Int} {x : Sbs} (h : SubOk H s r x) (hs : ∀ k m, H[k]? = some m → k ≠ s → x.o = (k : Int) → ∃ m', H'[k]? = some m' ∧ m'.r = m.r ∧ m'.tk x.t = m.tk x.t) : SubOk H' s r x := by
 obtain ⟨⟨k, h1, h2, m, h3, h4, h5, h6⟩, ht, hl, hr, hx⟩ := h
 obtain ⟨m', k1, k2, k3⟩ := hs k m h3 h2 h1
 exact ⟨⟨k, h1, h2, m', k1, k2.trans h4, by rw [k3]; exact h5, by rw [k3]; exact h6⟩, ht, hl, hr, hx⟩
theorem HouseOk.subs {H H' : List Mem} (h : HouseOk H) (hl : H'.length = H.length) (hk : ∀ (s : Nat) m m', H[s]? = some m → H'[s]? = some m' → skel m' = skel m ∧ (m'.subs.length ≤ 4 ∧ (m'.subs.map Sbs.s).Nodup ∧ ∀ x ∈ m'.subs, SubOk H s m.r x)) : HouseOk H' := by
 intro s m' hm'
 have hs : s < H.length := by rw [← hl]; exact (List.getElem?_eq_some_iff.1 hm').1
 obtain ⟨h1, h2, h3, h4⟩ := hk s H[s] m' (List.getElem?_eq_getElem hs) hm'
 have hr : m'.r = H[s].r := (Prod.mk.inj h1).1
 refine ⟨h2, fun x hx => ?_, h3⟩
 rw [hr]
 refine (h4 x hx).skel fun k m hk1 _ _ => ?_
 have hkl : k < H'.length := by rw [hl]; exact (List.getElem?_eq_some_iff.1 hk1).1
 have h5 := (hk k m H'[k] hk1 (List.getElem?_eq_getElem hkl)).1
 exact ⟨H'[k], List.getElem?_eq_getElem hkl, (Prod.mk.inj h5).1, skel_tk h5 _⟩
def dropM (p : Sbs → Bool) (m : Mem) : Mem := { m with subs := m.subs.filter fun x => !p x }
theorem nodup_filter {l : List Sbs} (p : Sbs → Bool) (h : (l.map Sbs.s).Nodup) : ((l.filter p).map Sbs.s).Nodup :=
 h.sublist ((List.filter_sublist).map _)
theorem HouseOk.drop {H : List Mem} (h : HouseOk H) (p : Nat → Sbs → Bool) : HouseOk (H.mapIdx fun i m => dropM (p i) m) := by
 refine h.subs (by rw [List.length_mapIdx]) fun s m m' hm hm' => ?_
 rw [List.getElem?_mapIdx, hm] at hm'
 obtain rfl : dropM (p s) m = m' := Option.some.inj hm'
 obtain ⟨h1, h2, h3⟩ := h s m hm
 refine ⟨rfl, Nat.le_trans (List.length_filter_le _ _) h1, nodup_filter _ h3, fun x hx => h2 x (List.mem_filter.1 hx).1⟩
theorem HouseOk.set {H : List Mem} (h : HouseOk H) (s : Nat) {m m' : Mem} (hm : H[s]? = some m) (hs : skel m' = skel m) (h1 : m'.subs.length ≤ 4) (h2 : (m'.subs.map Sbs.s).Nodup) (h3 : ∀ x ∈ m'.subs, SubOk H s m.r x) : HouseOk (H.set s m') := by
 refine h.subs (List.length_set ..) fun i q q' hq hq' => ?_
 by_cases e : i = s
 ·subst e
  have hl := (List.getElem?_eq_some_iff.1 hm).1
  rw [List.getElem?_set_self hl] at hq'
  obtain rfl := Option.some.inj hq'
  obtain rfl : m = q := Option.some.inj (hm.symm.trans hq)
  exact ⟨hs, h1, h2, h3⟩
 ·rw [List.getElem?_set_ne (Ne.symm e), hq] at hq'
  obtain rfl := Option.some.inj hq'
  obtain ⟨k1, k2, k3⟩ := h i q hq
  exact ⟨rfl, k1, k3, k2⟩
theorem HouseOk.turn {H : List Mem} (h : HouseOk H) (s : Nat) {m m' : Mem} (hm : H[s]? = some m) (hx : ∀ (i : Nat) (q : Mem), H[i]? = some q → i ≠ s → ∀ x ∈ q.subs, x.o = (s : Int) → m'.r = m.r ∧ m'.tk x.t = m.tk x.t) (h1 : m'.subs.length ≤ 4) (h2 : (m'.subs.map Sbs.s).Nodup) (h3 : ∀ x ∈ m'.subs, SubOk H s m'.r x) : HouseOk (H.set s m') := by
 have hl := (List.getElem?_eq_some_iff.1 hm).1
 have key : ∀ (i : Nat) (r : Int) (x : Sbs), (i ≠ s → x.o = (s : Int) → m'.r = m.r ∧ m'.tk x.t = m.tk x.t) → SubOk H i r x → SubOk (H.set s m') i r x := fun i r x hq hS => by
  refine hS.skel fun k q hk hki hxo => ?_
  by_cases e : k = s
  ·subst e
   obtain rfl : m = q := Option.some.inj (hm.symm.trans hk)
   obtain ⟨e1, e2⟩ := hq (fun e => hki e.symm) hxo
   exact ⟨m', List.getElem?_set_self hl, e1, e2⟩
  ·exact ⟨q, by rw [List.getElem?_set_ne (Ne.symm e)]; exact hk, rfl, rfl⟩
 intro i q' hq'
 by_cases e : i = s
 ·subst e
  rw [List.getElem?_set_self hl] at hq'
  obtain rfl := Option.some.inj hq'
  exact ⟨h1, fun x hx' => key i _ x (fun e _ => absurd rfl e) (h3 x hx'), h2⟩
 ·rw [List.getElem?_set_ne (Ne.symm e)] at hq'
  obtain ⟨k1, k2, k3⟩ := h i q' hq'
  exact ⟨k1, fun x hx' => key i _ x (fun _ ho => hx i q' hq' e x hx' ho) (k2 x hx'), k3⟩
theorem HouseOk.out {H : List Mem} (h : HouseOk H) {s : Nat} {m : Mem} (hm : H[s]? = some m) (hr : m.r < 0) : m.subs = [] ∧ ∀ (i : Nat) (q : Mem), H[i]? = some q → ∀ x ∈ q.subs, x.o ≠ (s : Int) := by
 refine ⟨?_, fun i q hq x hx e => ?_⟩
 ·cases hs : m.subs with
  | nil => rfl
  | cons x l =>
   have := ((h s m hm).x x (by rw [hs]; exact List.mem_cons_self)).r
   omega
 ·obtain ⟨⟨k, h1, -, q', h3, h4, -⟩, -, -, h7, -⟩ := (h i q hq).x x hx
  obtain rfl : k = s := by omega
  obtain rfl : m = q' := Option.some.inj (hm.symm.trans h3)
  omega
end Go.Proofs.Ytebeifkgjhgmeaa
