/- Offers as plain data: which one may be. Nothing of the program; no condition. -/
import Derived.Below
namespace Go.Proofs.YtafhnlnhflehhaaDoor
open Go.RowKit
structure WishD where
 t : Int
 c : Int
 s : List Nat
structure HearD where
 o : Int
 t : Int
 l : Int
structure OffD where
 seat : Int
 W : List WishD
 H : List HearD
def wi (W : List WishD) (i : Nat) : WishD := W.getD i ⟨0, 0, []⟩
def he (H : List HearD) (i : Nat) : HearD := H.getD i ⟨0, 0, 0⟩
def Sm (n : Int) : Prop := 0 ≤ n ∧ n < 255
def OkW (W : List WishD) (i : Nat) : Prop := Sm (wi W i).t ∧ (0 ≤ (wi W i).c ∧ (wi W i).c < 3) ∧ (0 < i → (wi W (i - 1)).t < (wi W i).t) ∧ (1 ≤ (wi W i).s.length ∧ (wi W i).s.length ≤ 4)
def allS (W : List WishD) : List Nat := W.flatMap (·.s)
def MayW (W : List WishD) : Prop := (∀ i, i < W.length → OkW W i) ∧ W.length ≤ 2 ∧ (allS W).Nodup ∧ ∀ x ∈ allS W, x < 1048576
def OkH (seat : Int) (H : List HearD) (i : Nat) : Prop := Sm (he H i).o ∧ Sm (he H i).t ∧ (-1 ≤ (he H i).l ∧ (he H i).l < 255) ∧ (he H i).o ≠ seat ∧ ∀ k, k < i → ¬ ((he H k).o = (he H i).o ∧ (he H k).t = (he H i).t)
def MayO (d : OffD) : Prop := Sm d.seat ∧ MayW d.W ∧ (∀ i, i < d.H.length → OkH d.seat d.H i) ∧ d.H.length ≤ 4
theorem wi_get {W : List WishD} {i : Nat} (h : i < W.length) : wi W i = W[i] := by
 unfold wi List.getD; rw [List.getElem?_eq_getElem h]; rfl
theorem he_get {H : List HearD} {i : Nat} (h : i < H.length) : he H i = H[i] := by
 unfold he List.getD; rw [List.getElem?_eq_getElem h]; rfl
theorem allS_take (W : List WishD) {i : Nat} (h : i < W.length) : allS (W.take (i + 1)) = allS (W.take i) ++ (wi W i).s := by
 rw [List.take_add_one, List.getElem?_eq_getElem h, wi_get h]
 unfold allS
 rw [List.flatMap_append]
 show _ ++ ([W[i]].flatMap fun x => x.s) = _
 rw [List.flatMap_singleton]
theorem allS_split (W : List WishD) {i : Nat} (h : i < W.length) : allS W = allS (W.take i) ++ ((wi W i).s ++ allS (W.drop (i + 1))) := by
 conv => lhs; rw [← List.take_append_drop i W, List.drop_eq_getElem_cons h]
 rw [wi_get h]
 unfold allS
 rw [List.flatMap_append, List.flatMap_cons]
theorem dup_not {W : List WishD} {i k : Nat} (h : i < W.length) (hk : k < (wi W i).s.length) (hm : (wi W i).s[k] ∈ allS (W.take i) ++ (wi W i).s.take k) : ¬ (allS W).Nodup := by
 intro hn
 rw [allS_split W h] at hn
 have e : (wi W i).s = (wi W i).s.take k ++ (wi W i).s[k] :: (wi W i).s.drop (k + 1) := by
  rw [← List.drop_eq_getElem_cons hk, List.take_append_drop]
 rw [e, List.append_assoc, ← List.append_assoc] at hn
 rw [List.nodup_append] at hn
 exact hn.2.2 _ hm _ (List.mem_append_left _ List.mem_cons_self) rfl
theorem src_mem {W : List WishD} {i k : Nat} (h : i < W.length) (hk : k < (wi W i).s.length) : (wi W i).s[k] ∈ allS W := by
 rw [allS_split W h]
 exact List.mem_append_right _ (List.mem_append_left _ (List.getElem_mem hk))
theorem not_okW {W : List WishD} {i : Nat} (h : i < W.length) (hn : ¬ OkW W i) : ¬ MayW W := fun hm => hn (hm.1 i h)
theorem nodup_snoc {l : List Nat} {x : Nat} (h : l.Nodup) (hx : ∀ y ∈ l, y ≠ x) : (l ++ [x]).Nodup := by
 rw [List.nodup_append]
 exact ⟨h, by simp, fun a ha b hb => by
  obtain rfl := List.mem_singleton.1 hb
  exact hx a ha⟩
end Go.Proofs.YtafhnlnhflehhaaDoor
