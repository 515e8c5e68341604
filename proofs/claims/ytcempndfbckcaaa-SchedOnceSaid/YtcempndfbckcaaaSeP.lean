/- The table of tasks, as a list in order: what is due. Plain law. -/
import Derived.Test.YtcempndfbckcaaaSeA
namespace Go.Proofs.Ytcempndfbckcaaa

def insT (E : Tk) : List Tk → List Tk
  | [] => [E]
  | x :: t => if E.key < x.key then E :: x :: t else x :: insT E t
theorem insT_perm (E : Tk) : ∀ S : List Tk, (insT E S).Perm (E :: S)
  | [] => .refl _
  | x :: t => by
    unfold insT
    split
    · exact .refl _
    · exact ((insT_perm E t).cons x).trans (.swap E x t)
theorem insT_len (E : Tk) (S : List Tk) : (insT E S).length = S.length + 1 := (insT_perm E S).length_eq
theorem insT_so (E : Tk) : ∀ S : List Tk, S.Pairwise (fun x y => x.key < y.key) → (∀ x ∈ S, x.key ≠ E.key) → (insT E S).Pairwise (fun x y => x.key < y.key)
  | [], _, _ => List.pairwise_singleton _ _
  | x :: t, h, hn => by
    rw [List.pairwise_cons] at h
    unfold insT
    by_cases hk : E.key < x.key
    · rw [if_pos hk, List.pairwise_cons]
      refine ⟨fun y hy => ?_, List.pairwise_cons.2 h⟩
      rcases List.mem_cons.1 hy with rfl | hy
      · exact hk
      · exact Int.lt_trans hk (h.1 y hy)
    · rw [if_neg hk, List.pairwise_cons]
      refine ⟨fun y hy => ?_, insT_so E t h.2 (fun y hy => hn y (List.mem_cons_of_mem _ hy))⟩
      rcases List.mem_cons.1 ((insT_perm E t).mem_iff.1 hy) with rfl | hy
      · have := hn x List.mem_cons_self
        omega
      · exact h.1 y hy
/-- What a table has. -/
structure TOk (S : List Tk) (last : Int) : Prop where
  so : S.Pairwise (fun x y => x.key < y.key)
  nd : (S.map Tk.n).Nodup
  rg : ∀ x ∈ S, 1 ≤ x.n ∧ x.n ≤ last
  tk : ∀ x ∈ S, 0 ≤ x.t ∧ x.t ≤ 1125899906842624 ∧ 0 ≤ x.p ∧ x.p ≤ 35184372088832
  ls : 0 ≤ last ∧ last ≤ 1000000
theorem TOk.nil : TOk [] 0 := ⟨.nil, .nil, by simp, by simp, by omega⟩
theorem TOk.rng {S : List Tk} {last : Int} (h : TOk S last) : ∀ x ∈ S, 0 ≤ x.n ∧ x.n ≤ 9223372036854775807 := fun x hx => by
  have := h.rg x hx
  have := h.ls
  omega
theorem TOk.tail {x : Tk} {S : List Tk} {last : Int} (h : TOk (x :: S) last) : TOk S last := by
  have h2 := h.nd
  rw [List.map_cons, List.nodup_cons] at h2
  exact ⟨(List.pairwise_cons.1 h.so).2, h2.2, fun y hy => h.rg y (List.mem_cons_of_mem _ hy), fun y hy => h.tk y (List.mem_cons_of_mem _ hy), h.ls⟩
theorem TOk.ins {E : Tk} {S : List Tk} {last last' : Int} (h : TOk S last) (hl : last ≤ last' ∧ last' ≤ 1000000) (h1 : 1 ≤ E.n ∧ E.n ≤ last') (h2 : 0 ≤ E.t ∧ E.t ≤ 1125899906842624 ∧ 0 ≤ E.p ∧ E.p ≤ 35184372088832) (h3 : E.n ∉ S.map Tk.n) : TOk (insT E S) last' := by
  have hls := h.ls
  have hp := insT_perm E S
  refine ⟨insT_so E S h.so (fun x hx e => h3 ?_), ?_, fun x hx => ?_, fun x hx => ?_, by omega⟩
  · rw [← key_inj (h.rng x hx) (by omega) e]
    exact List.mem_map_of_mem hx
  · rw [(hp.map Tk.n).nodup_iff, List.map_cons, List.nodup_cons]
    exact ⟨h3, h.nd⟩
  · rcases List.mem_cons.1 (hp.mem_iff.1 hx) with rfl | hx
    · exact h1
    · have := h.rg x hx
      omega
  · rcases List.mem_cons.1 (hp.mem_iff.1 hx) with rfl | hx
    · exact h2
    · exact h.tk x hx
/-- The least one is the first. -/
theorem TOk.least {x E : Tk} {S H : List Tk} {last : Int} (h : TOk (x :: S) last) (hp : (x :: S).Perm H) (hE : E ∈ H) (hm : ∀ y ∈ H, E.key ≤ y.key) : E = x := by
  rcases List.mem_cons.1 (hp.mem_iff.2 hE) with e | hE
  · exact e
  · have h1 := (List.pairwise_cons.1 h.so).1 E hE
    have h2 := hm x (hp.mem_iff.1 List.mem_cons_self)
    omega
def nextT (tick : Int) (E : Tk) : Tk := { E with t := E.t + ((tick - E.t) / E.p + 1) * E.p }
def dueT (tick : Int) (E : Tk) : Bool := decide (E.t ≤ tick)
def againT (tick : Int) (l : List Tk) : List Tk := (l.filter fun E => decide (0 < E.p)).map (nextT tick)
def dueS (tick : Int) (S : List Tk) : List Tk × List ByteArray :=
  ((againT tick (S.takeWhile (dueT tick))).foldl (fun S E => insT E S) (S.dropWhile (dueT tick)), (S.takeWhile (dueT tick)).map Tk.s)
theorem next_bound {tick t p : Int} (h1 : 0 ≤ t) (h2 : t ≤ tick) (hp : 0 < p) : 0 ≤ (tick - t) / p ∧ (tick - t) / p ≤ tick - t ∧ ((tick - t) / p + 1) * p ≤ tick - t + p ∧ p ≤ ((tick - t) / p + 1) * p := by
  have hq : 0 ≤ (tick - t) / p := Int.ediv_nonneg (by omega) (by omega)
  have hm : (tick - t) / p * p ≤ tick - t := Int.ediv_mul_le _ (by omega)
  have h1 : (tick - t) / p ≤ (tick - t) / p * p := by
    have := Int.mul_le_mul_of_nonneg_left (show 1 ≤ p by omega) hq
    omega
  have e : ((tick - t) / p + 1) * p = (tick - t) / p * p + p := by rw [Int.add_mul]; omega
  have h5 : 0 ≤ (tick - t) / p * p := Int.mul_nonneg hq (by omega)
  omega
/-- One that is due, made ready again. -/
theorem next_ok {tick : Int} {E : Tk} (h : 0 ≤ E.t ∧ E.t ≤ tick) (hp : 0 < E.p ∧ E.p ≤ 35184372088832) (ht : tick ≤ 562949953421312) : 0 ≤ (nextT tick E).t ∧ (nextT tick E).t ≤ 1125899906842624 ∧ 0 ≤ (nextT tick E).p ∧ (nextT tick E).p ≤ 35184372088832 := by
  have := next_bound h.1 h.2 hp.1
  show 0 ≤ E.t + ((tick - E.t) / E.p + 1) * E.p ∧ E.t + ((tick - E.t) / E.p + 1) * E.p ≤ _ ∧ 0 ≤ E.p ∧ E.p ≤ _
  omega
end Go.Proofs.Ytcempndfbckcaaa
