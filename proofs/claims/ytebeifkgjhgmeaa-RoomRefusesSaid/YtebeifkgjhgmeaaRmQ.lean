/- A house of rooms, as plain data: what each kind of frame turns keeps what is true of it. Nothing of the program; no condition. -/
import Derived.Test.YtebeifkgjhgmeaaRmP
namespace Go.Proofs.Ytebeifkgjhgmeaa
theorem HouseOk.nonce {H : List Mem} (h : HouseOk H) (s : Nat) {m : Mem} (hm : H[s]? = some m) (n : Nat) : HouseOk (H.set s { m with n := n }) := by
 obtain ⟨h1, h2, h3⟩ := h s m hm
 exact h.set s hm rfl h1 h3 h2
theorem HouseOk.join {H : List Mem} (h : HouseOk H) (s : Nat) {m : Mem} (hm : H[s]? = some m) (hr : m.r < 0) (r : Int) : HouseOk (H.set s { m with r := r }) := by
 obtain ⟨h1, h2⟩ := h.out hm hr
 refine h.turn s hm (fun i q hq _ x hx e => absurd e (h2 i q hq x hx)) ?_ ?_ ?_
 ·show m.subs.length ≤ 4
  rw [h1]; decide
 ·show (m.subs.map Sbs.s).Nodup
  rw [h1]; exact List.nodup_nil
 ·intro x hx
  have hx' : x ∈ m.subs := hx
  rw [h1] at hx'
  cases hx'
def ofO (s : Int) (x : Sbs) : Bool := x.o == s
def ofT (s t : Int) (x : Sbs) : Bool := x.o == s && x.t == t
theorem mapIdx_get {H : List Mem} {f : Nat → Mem → Mem} {i : Nat} {q : Mem} (h : (H.mapIdx f)[i]? = some q) : ∃ m, H[i]? = some m ∧ f i m = q := by
 rw [List.getElem?_mapIdx] at h
 cases hm : H[i]? with
 | none => rw [hm] at h; cases h
 | some m => rw [hm] at h; exact ⟨m, rfl, Option.some.inj h⟩
theorem HouseOk.leave {H : List Mem} (h : HouseOk H) (s : Nat) {m : Mem} (hm : H[s]? = some m) (n : Nat) : HouseOk ((H.mapIdx fun i m => dropM (fun x => i == s || ofO s x) m).set s { mem0 with n := n }) := by
 have hm' : (H.mapIdx fun i m => dropM (fun x => i == s || ofO s x) m)[s]? = some (dropM (fun x => s == s || ofO s x) m) := by rw [List.getElem?_mapIdx, hm]; rfl
 refine (h.drop fun i x => i == s || ofO s x).turn s hm' (fun i q hq hi x hx e => ?_) (Nat.zero_le _) List.nodup_nil (fun x hx => by cases hx)
 obtain ⟨q0, h1, rfl⟩ := mapIdx_get hq
 have h2 := (List.mem_filter.1 hx).2
 simp [ofO, e] at h2
theorem setTk_tk (m : Mem) (t u : Int) (x : Trk) (ht : t = 0 ∨ t = 1) (hu : u = 0 ∨ u = 1) : (m.setTk t x).tk u = if u = t then x else m.tk u := by
 unfold Mem.setTk Mem.tk
 rcases ht with rfl | rfl <;> rcases hu with rfl | rfl <;> simp
theorem setTk_r (m : Mem) (t : Int) (x : Trk) : (m.setTk t x).r = m.r := by unfold Mem.setTk; split <;> rfl
theorem setTk_subs (m : Mem) (t : Int) (x : Trk) : (m.setTk t x).subs = m.subs := by unfold Mem.setTk; split <;> rfl
theorem HouseOk.publish {H : List Mem} (h : HouseOk H) (s : Nat) {m : Mem} (hm : H[s]? = some m) (t : Int) (ht : t = 0 ∨ t = 1) (hi : (m.tk t).is = false) (x : Trk) : HouseOk (H.set s (m.setTk t x)) := by
 obtain ⟨h1, h2, h3⟩ := h s m hm
 refine h.turn s hm (fun i q hq hi' y hy e => ⟨setTk_r .., ?_⟩) (by rw [setTk_subs]; exact h1) (by rw [setTk_subs]; exact h3) (fun y hy => by rw [setTk_r]; rw [setTk_subs] at hy; exact h2 y hy)
 obtain ⟨⟨k, k1, -, q', k3, -, k5, -⟩, k6, -, -, -⟩ := (h i q hq).x y hy
 obtain rfl : k = s := by omega
 obtain rfl : m = q' := Option.some.inj (hm.symm.trans k3)
 rw [setTk_tk m t y.t x ht k6]
 refine if_neg fun e => ?_
 rw [e, hi] at k5
 cases k5
theorem HouseOk.unpublish {H : List Mem} (h : HouseOk H) (s : Nat) {m : Mem} (hm : H[s]? = some m) (t : Int) (ht : t = 0 ∨ t = 1) : HouseOk ((H.set s (m.setTk t trk0)).mapIdx fun _ m => dropM (ofT s t) m) := by
 have e : (H.set s (m.setTk t trk0)).mapIdx (fun _ m => dropM (ofT s t) m) = (H.mapIdx fun _ m => dropM (ofT s t) m).set s (dropM (ofT s t) (m.setTk t trk0)) := by
  refine List.ext_getElem? fun i => ?_
  rw [List.getElem?_mapIdx]
  by_cases e : i = s
  ·subst e
   have hl := (List.getElem?_eq_some_iff.1 hm).1
   rw [List.getElem?_set_self hl, List.getElem?_set_self (by rw [List.length_mapIdx]; exact hl)]
   rfl
  ·rw [List.getElem?_set_ne (Ne.symm e), List.getElem?_set_ne (Ne.symm e), List.getElem?_mapIdx]
 rw [e]
 have hm' : (H.mapIdx fun _ m => dropM (ofT s t) m)[s]? = some (dropM (ofT s t) m) := by rw [List.getElem?_mapIdx, hm]; rfl
 have hd := h.drop fun _ => ofT s t
 obtain ⟨h1, h2, h3⟩ := hd s _ hm'
 have hs : (dropM (ofT s t) (m.setTk t trk0)).subs = (dropM (ofT s t) m).subs := by unfold dropM; simp only [setTk_subs]
 have hr : (dropM (ofT s t) (m.setTk t trk0)).r = (dropM (ofT s t) m).r := setTk_r ..
 refine hd.turn s hm' (fun i q hq hi y hy e => ⟨hr, ?_⟩) (by rw [hs]; exact h1) (by rw [hs]; exact h3) (fun y hy => by rw [hr]; rw [hs] at hy; exact h2 y hy)
 obtain ⟨q0, k1, rfl⟩ := mapIdx_get hq
 have k2 := (List.mem_filter.1 hy).2
 have k6 := ((h i q0 k1).x y (List.mem_filter.1 hy).1).t
 have ht' : y.t ≠ t := fun e2 => by simp [ofT, e, e2] at k2
 show (m.setTk t trk0).tk y.t = m.tk y.t
 rw [setTk_tk m t y.t trk0 ht k6, if_neg ht']
theorem HouseOk.unsub {H : List Mem} (h : HouseOk H) (s : Nat) {m : Mem} (hm : H[s]? = some m) (p : Sbs → Bool) : HouseOk (H.set s (dropM p m)) := by
 obtain ⟨h1, h2, h3⟩ := h s m hm
 exact h.set s hm rfl (Nat.le_trans (List.length_filter_le _ _) h1) (nodup_filter _ h3) fun x hx => h2 x (List.mem_filter.1 hx).1
theorem HouseOk.sub {H : List Mem} (h : HouseOk H) (s : Nat) {m : Mem} (hm : H[s]? = some m) (x : Sbs) (hn : m.subs.length < 4) (hx : SubOk H s m.r x) (hf : x.s ∉ m.subs.map Sbs.s) : HouseOk (H.set s { m with subs := m.subs ++ [x] }) := by
 obtain ⟨h1, h2, h3⟩ := h s m hm
 refine h.set s hm rfl ?_ ?_ fun y hy => ?_
 ·show (m.subs ++ [x]).length ≤ 4
  rw [List.length_append]; exact hn
 ·show ((m.subs ++ [x]).map Sbs.s).Nodup
  rw [List.map_append]
  refine List.nodup_append.2 ⟨h3, by simp, fun a ha b hb e => ?_⟩
  have hb' : b = x.s := by simpa using hb
  rw [e, hb'] at ha
  exact hf ha
 ·rcases List.mem_append.1 hy with hy | hy
  ·exact h2 y hy
  ·obtain rfl : y = x := by simpa using hy
   exact hx
theorem HouseOk.layer {H : List Mem} (h : HouseOk H) (s : Nat) {m : Mem} (hm : H[s]? = some m) (i : Nat) (hi : i < m.subs.length) (l : Int) (h0 : -1 ≤ l) (hl : ∀ (k : Nat) (q : Mem), (m.subs[i]).o = (k : Int) → H[k]? = some q → l < (q.tk (m.subs[i]).t).p.length) : HouseOk (H.set s { m with subs := m.subs.set i { m.subs[i] with l := l } }) := by
 obtain ⟨h1, h2, h3⟩ := h s m hm
 refine h.set s hm rfl ?_ ?_ fun y hy => ?_
 ·show (m.subs.set i _).length ≤ 4
  rw [List.length_set]; exact h1
 ·show ((m.subs.set i _).map Sbs.s).Nodup
  have e : (m.subs.set i { m.subs[i] with l := l }).map Sbs.s = m.subs.map Sbs.s := by
   refine List.ext_getElem? fun j => ?_
   rw [List.getElem?_map, List.getElem?_map]
   by_cases e : j = i
   ·subst e
    rw [List.getElem?_set_self hi, List.getElem?_eq_getElem hi]
    rfl
   ·rw [List.getElem?_set_ne (Ne.symm e)]
  rw [e]; exact h3
 ·rcases List.mem_or_eq_of_mem_set hy with hy | rfl
  ·exact h2 y hy
  ·obtain ⟨⟨k, k1, k2, q, k3, k4, k5, k6⟩, k7, k8, k9, k10⟩ := h2 _ (List.getElem_mem hi)
   exact ⟨⟨k, k1, k2, q, k3, k4, k5, hl k q k1 k3⟩, k7, h0, k9, k10⟩
theorem run_le : ∀ (j b : Nat) (l : List Nat), (∀ i, i < j → b + i ∈ l) → j ≤ l.length
 | 0, _, _, _ => Nat.zero_le _
 | j + 1, b, l, h => by
  have h0 := h j (by omega)
  have h1 := run_le j b (l.erase (b + j)) (fun i hi => (List.mem_erase_of_ne (by omega)).2 (h i (by omega)))
  rw [List.length_erase_of_mem h0] at h1
  have := List.length_pos_of_mem h0
  omega
theorem HouseOk.apart {H : List Mem} (h : HouseOk H) {i j : Nat} {m q : Mem} (hm : H[i]? = some m) (hq : H[j]? = some q) (hij : i ≠ j) {x y : Sbs} (hx : x ∈ m.subs) (hy : y ∈ q.subs) : x.s ≠ y.s := by
 have h1 := ((h i m hm).x x hx).s
 have h2 := ((h j q hq).x y hy).s
 omega
end Go.Proofs.Ytebeifkgjhgmeaa
