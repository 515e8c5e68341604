/- A pacer as a variable; what waits is counted. No condition but the sizes'. -/
import Derived.Test.YtgiajnfmjpdodaaPaA
import Derived.Test.YtgiajnfmjpdodaaBk0
import Derived.Test.YtgiajnfmjpdodaaArB
namespace Go.Proofs.Ytgiajnfmjpdodaa
open Go.RowKit

/-- A pacer: its budget's rate, burst, and what it has; the rooms; what waits of each class; how many went. -/
structure PcS where
  rate : Int
  burst : Int
  hav : Int
  packets : Int
  bytes : Int
  qs : List (List (List Nat))
  gone : Nat
def lnS (q : List (List Nat)) : Nat := (q.map List.length).sum
def mny (l : List (List (List Nat))) : Nat := (l.map List.length).sum
def siz (l : List (List (List Nat))) : Nat := (l.map lnS).sum
theorem sum_snoc (l : List Nat) (x : Nat) : (l ++ [x]).sum = l.sum + x := by induction l with
  | nil => simp
  | cons a l ih => simp [ih, Nat.add_assoc]
theorem sum_take_le (l : List Nat) : ∀ k, (l.take k).sum ≤ l.sum := by
  induction l with
  | nil => intro k; simp
  | cons a l ih =>
    intro k
    cases k with
    | zero => simp
    | succ k => have := ih k; simp; omega
theorem lnS_take (q : List (List Nat)) (j : Nat) (h : j < q.length) : lnS (q.take (j + 1)) = lnS (q.take j) + (q.getD j []).length := by
  unfold lnS
  rw [List.take_succ_eq_append_getElem h, List.map_append, List.map_singleton, sum_snoc, List.getD_eq_getElem?_getD, List.getElem?_eq_getElem h]; rfl
theorem lnS_le (q : List (List Nat)) (j : Nat) : lnS (q.take j) ≤ lnS q := by
  unfold lnS; rw [List.map_take]; exact sum_take_le _ _
theorem mny_take (l : List (List (List Nat))) (j : Nat) (h : j < l.length) : mny (l.take (j + 1)) = mny (l.take j) + (l.getD j []).length := by
  unfold mny
  rw [List.take_succ_eq_append_getElem h, List.map_append, List.map_singleton, sum_snoc, List.getD_eq_getElem?_getD, List.getElem?_eq_getElem h]; rfl
theorem mny_le (l : List (List (List Nat))) (j : Nat) : mny (l.take j) ≤ mny l := by
  unfold mny; rw [List.map_take]; exact sum_take_le _ _
theorem siz_take (l : List (List (List Nat))) (j : Nat) (h : j < l.length) : siz (l.take (j + 1)) = siz (l.take j) + lnS (l.getD j []) := by
  unfold siz
  rw [List.take_succ_eq_append_getElem h, List.map_append, List.map_singleton, sum_snoc, List.getD_eq_getElem?_getD, List.getElem?_eq_getElem h]; rfl
theorem siz_le (l : List (List (List Nat))) (j : Nat) : siz (l.take j) ≤ siz l := by
  unfold siz; rw [List.map_take]; exact sum_take_le _ _
theorem sum_drop_le (l : List Nat) : ∀ k, (l.drop k).sum ≤ l.sum := by
  induction l with
  | nil => intro k; simp
  | cons a l ih =>
    intro k
    cases k with
    | zero => simp
    | succ k => have := ih k; simp; omega
theorem mny_drop (l : List (List (List Nat))) (j : Nat) : mny (l.drop j) ≤ mny l := by
  unfold mny; rw [List.map_drop]; exact sum_drop_le _ _
theorem siz_drop (l : List (List (List Nat))) (j : Nat) : siz (l.drop j) ≤ siz l := by
  unfold siz; rw [List.map_drop]; exact sum_drop_le _ _

def pacC (gb : Nat) (bu pk by_ : Int) (vs : List Value) (gone : Nat) : Array Value := (([.pointer (some ⟨gb, 0, none⟩), .int .u64 bu, .int .i64 pk, .int .i64 by_] : List Value) ++ (vs ++ [Value.int .i64 (gone : Nat)])).toArray
theorem pacC_q (gb : Nat) (bu pk by_ : Int) (vs : List Value) (gone c : Nat) (hv : vs.length = 4) (hc : c < 4) : (pacC gb bu pk by_ vs gone)[4 + c]? = some (vs.getD c undef) := by
  unfold pacC
  rw [List.getElem?_toArray, Nat.add_comm]
  show (vs ++ _)[c]? = _
  rw [List.getElem?_append_left (by omega), List.getD_eq_getElem?_getD, List.getElem?_eq_getElem (by omega)]; rfl
theorem pacC_g (gb : Nat) (bu pk by_ : Int) (vs : List Value) (gone : Nat) (hv : vs.length = 4) : (pacC gb bu pk by_ vs gone)[8]? = some (.int .i64 (gone : Nat)) := by
  unfold pacC
  rw [List.getElem?_toArray]
  show (vs ++ _)[4]? = _
  rw [List.getElem?_append_right (by omega), hv]; rfl
theorem pacC_set (gb : Nat) (bu pk by_ : Int) (vs : List Value) (gone c : Nat) (v : Value) (hv : vs.length = 4) (hc : c < 4) : (pacC gb bu pk by_ vs gone).setIfInBounds (4 + c) v = pacC gb bu pk by_ (vs.set c v) gone := by
  unfold pacC
  rw [List.setIfInBounds_toArray, Nat.add_comm]
  show (_ :: _ :: _ :: _ :: (vs ++ _).set c v).toArray = _
  rw [List.set_append_left _ _ (by omega)]; rfl
theorem pacC_setg (gb : Nat) (bu pk by_ : Int) (vs : List Value) (gone n : Nat) (hv : vs.length = 4) : (pacC gb bu pk by_ vs gone).setIfInBounds 8 (.int .i64 (n : Nat)) = pacC gb bu pk by_ vs n := by
  unfold pacC
  rw [List.setIfInBounds_toArray]
  show (_ :: _ :: _ :: _ :: (vs ++ _).set 4 _).toArray = _
  rw [List.set_append_right _ _ (by omega), hv]; rfl
/-- What waits of class c. -/
def qAt (S : PcS) (c : Nat) : List (Int × List Nat) := (S.qs.getD c []).map fun b => ((c : Int), b)
structure PacV (w : World) (base g gb : Nat) (vs : List Value) (S : PcS) : Prop where
  cells : HpB w g (.cells (pacC gb S.burst S.packets S.bytes vs S.gone) 97)
  bk : Bk w gb S.rate S.burst S.hav
  vl : vs.length = 4
  ql : S.qs.length = 4
  pq : ∀ c, c < 4 → PQ w base (vs.getD c undef) (S.qs.getD c []).length (qAt S c)
  apt : ∀ c d, c < 4 → d < 4 → c ≠ d → Apt (vs.getD c undef) (vs.getD d undef)
theorem PacV.bw {w w' : World} {base g gb : Nat} {vs : List Value} {S : PcS} (h : PacV w base g gb vs S) (hb : BW w w') : PacV w' base g gb vs S :=
  ⟨h.cells.bw hb, hb.heap h.bk, h.vl, h.ql, fun c hc => (h.pq c hc).bw hb, h.apt⟩
theorem PacV.cell {w : World} {base g gb : Nat} {vs : List Value} {S : PcS} (h : PacV w base g gb vs S) (c : Nat) (hc : c < 4) : w.cell? ⟨g, 4 + c, none⟩ = some (vs.getD c undef) := by
  rw [hp_cell h.cells, pacC_q _ _ _ _ _ _ _ h.vl hc]
theorem run_slice4_0 (g : Nat) : ∀ w, (Instr.sliceAt 95 (.pointer (some ⟨g, 4, none⟩)) (some (.int .i64 0)) none none).run Try.prog w = .ok (.slice (some ⟨g, 4 + 0, none⟩) (4 - 0) (4 - 0)) w := fun w => by kernel_rfl
theorem run_slice4_1 (g : Nat) : ∀ w, (Instr.sliceAt 95 (.pointer (some ⟨g, 4, none⟩)) (some (.int .i64 1)) none none).run Try.prog w = .ok (.slice (some ⟨g, 4 + 1, none⟩) (4 - 1) (4 - 1)) w := fun w => by kernel_rfl
theorem run_slice4_2 (g : Nat) : ∀ w, (Instr.sliceAt 95 (.pointer (some ⟨g, 4, none⟩)) (some (.int .i64 2)) none none).run Try.prog w = .ok (.slice (some ⟨g, 4 + 2, none⟩) (4 - 2) (4 - 2)) w := fun w => by kernel_rfl
theorem run_slice4_3 (g : Nat) : ∀ w, (Instr.sliceAt 95 (.pointer (some ⟨g, 4, none⟩)) (some (.int .i64 3)) none none).run Try.prog w = .ok (.slice (some ⟨g, 4 + 3, none⟩) (4 - 3) (4 - 3)) w := fun w => by kernel_rfl
theorem run_slice4_4 (g : Nat) : ∀ w, (Instr.sliceAt 95 (.pointer (some ⟨g, 4, none⟩)) (some (.int .i64 4)) none none).run Try.prog w = .ok (.slice (some ⟨g, 4 + 0, none⟩) (4 - 4) (4 - 4)) w := fun w => by kernel_rfl
def frm (f : Nat) : Nat := if f = 4 then 0 else f
theorem run_slice4 (g f : Nat) (hf : f ≤ 4) (w : World) : (Instr.sliceAt 95 (.pointer (some ⟨g, 4, none⟩)) (some (.int .i64 (f : Nat))) none none).run Try.prog w = .ok (.slice (some ⟨g, 4 + frm f, none⟩) (4 - f) (4 - f)) w := by
  have hk : f = 0 ∨ f = 1 ∨ f = 2 ∨ f = 3 ∨ f = 4 := by omega
  rcases hk with rfl | rfl | rfl | rfl | rfl
  · exact run_slice4_0 g w
  · exact run_slice4_1 g w
  · exact run_slice4_2 g w
  · exact run_slice4_3 g w
  · exact run_slice4_4 g w

set_option maxRecDepth 100000 in
set_option maxHeartbeats 8000000 in
theorem counted_any (base g gb f : Nat) (vs : List Value) (S : PcS) (w : World) (hf : f ≤ 4) (h : PacV w base g gb vs S) (hm : mny S.qs ≤ 1000000) (hs : siz S.qs ≤ 1000000000) :
    Calls Try.prog 58 #[.pointer (some ⟨g, 0, none⟩), .int .i64 (f : Nat)] w fun e w' => e = .returned (.tuple #[.int .i64 (mny (S.qs.drop f) : Nat), .int .i64 (siz (S.qs.drop f) : Nat)]) ∧ BW w w' := by
  have hc := run_slice4 g f hf
  have hdl : (S.qs.drop f).length = 4 - f := by rw [List.length_drop, h.ql]
  have hmd := Nat.le_trans (mny_drop S.qs f) hm
  have hsd := Nat.le_trans (siz_drop S.qs f) hs
  have hH := Lib.hid h
  clear h
  replace hdl := Lib.hid hdl
  go_enter Try.func58, Try.ntmps58
  have hsz : 4 - f ≤ 4 := by omega
  generalize hnf : 4 - f = nf at *
  have hfr : ∀ k, k < nf → 4 + frm f + k = 4 + (f + k) ∧ f + k < 4 := fun k hk => by
    have : f ≠ 4 := by omega
    unfold frm
    rw [if_neg this]
    omega
  generalize frm f = ff at *
  replace hnf := Lib.hid hnf
  replace hfr := Lib.hid hfr
  go_upto_region 3 with (fail)
  clear hc
  go_loopg [6, 7, 18] nf (fun m' a b i wx => ∃ k : Nat, m' = nf - k ∧ k ≤ nf ∧ i = .int .i64 (k : Nat) ∧ a = .int .i64 (mny ((S.qs.drop f).take k) : Nat) ∧ b = .int .i64 (siz ((S.qs.drop f).take k) : Nat) ∧ Hid (BW w wx))
  case atStart => exact ⟨0, by omega, by omega, rfl, by simp [mny], by simp [siz], BW.refl _⟩
  case round =>
    obtain ⟨k, rfl, hk, rfl, rfl, rfl, B⟩ := hrel
    by_cases hkn : k < nf
    · obtain ⟨e1, e2⟩ := hfr.out k hkn
      have zc := B.out.cell (hH.out.cell (f + k) e2)
      rw [← e1] at zc
      clear e1
      have pq := hH.out.pq (f + k) e2
      obtain ⟨sv, cv, hv, hnv, hmv⟩ := pq.len
      rw [hv] at zc pq
      unfold maxLen at hmv
      have hkl : k < (S.qs.drop f).length := by rw [hdl.out]; exact hkn
      have hq : (S.qs.drop f).getD k [] = S.qs.getD (f + k) [] := by
        rw [List.getD_eq_getElem?_getD, List.getElem?_drop, ← List.getD_eq_getElem?_getD]
      have hm1 := mny_take (S.qs.drop f) k hkl
      have hs1 := siz_take (S.qs.drop f) k hkl
      rw [hq] at hm1 hs1
      have hm2 := Nat.le_trans (mny_le (S.qs.drop f) (k + 1)) hmd
      have hs2 := Nat.le_trans (siz_le (S.qs.drop f) (k + 1)) hsd
      have hat : ∀ j (hj : j < (qAt S (f + k)).length), (qAt S (f + k))[j].2 = (S.qs.getD (f + k) []).getD j [] := fun j hj => by
        have hj' : j < (S.qs.getD (f + k) []).length := by simpa [qAt] using hj
        simp only [qAt, List.getElem_map]
        rw [List.getD_eq_getElem?_getD (l := S.qs.getD (f + k) []), List.getElem?_eq_getElem hj']; rfl
      have htk := fun j hj => lnS_take (S.qs.getD (f + k) []) j hj
      have hlk := fun j => lnS_le (S.qs.getD (f + k) []) j
      have hal : (qAt S (f + k)).length = (S.qs.getD (f + k) []).length := by simp [qAt]
      generalize S.qs.getD (f + k) [] = q at *
      generalize hM1 : mny ((S.qs.drop f).take (k + 1)) = M1 at *
      generalize hS1 : siz ((S.qs.drop f).take (k + 1)) = S1 at *
      replace hM1 := Lib.hid hM1
      replace hS1 := Lib.hid hS1
      generalize mny ((S.qs.drop f).take k) = M0 at *
      generalize siz ((S.qs.drop f).take k) = S0 at *
      generalize hn : q.length = n at *
      have u1 : (M0 : Int) + (n : Int) ≤ 1000000 := by omega
      have u2 : (S0 : Int) ≤ 1000000000 := by omega
      replace pq := Lib.hid pq
      replace hat := Lib.hid hat
      replace htk := Lib.hid htk
      replace hlk := Lib.hid hlk
      replace hal := Lib.hid hal
      replace hn := Lib.hid hn
      obtain ⟨wq, rfl⟩ : ∃ x, x = wr := ⟨_, rfl⟩
      go_upto_region 7 with (fail)
      clear zc
      go_loopg [7, 28] n (fun m' b i wx => ∃ j : Nat, m' = n - j ∧ j ≤ n ∧ i = .int .i64 (j : Nat) ∧ b = .int .i64 (S0 + lnS (q.take j) : Nat) ∧ Hid (BW w wx))
      case atStart => exact ⟨0, by omega, by omega, rfl, by simp [lnS], B⟩
      case round =>
        clear B
        obtain ⟨j, rfl, hj, rfl, rfl, B⟩ := hrel
        by_cases hjn : j < n
        · obtain ⟨g1, o1, c1, hsl, _, _, _, _, hce⟩ := (pq.out.bw B.out).form (by omega)
          simp only [Value.slice.injEq] at hsl
          obtain ⟨rfl, -, rfl⟩ := hsl
          obtain ⟨u, k1, k2, k3⟩ := hce j (by rw [hal.out]; exact hjn)
          rw [← Nat.add_assoc] at k2
          have hjb := hat.out j (by rw [hal.out]; exact hjn)
          rw [hjb] at k3
          obtain ⟨cc, k1⟩ : ∃ cc, wr.cell? ⟨g1, o1 + j * 2, none⟩ = some (.int .i64 cc) := ⟨_, k1⟩
          have ht := htk.out j hjn
          have hl1 := hlk.out (j + 1)
          obtain ⟨su, cu, rfl, _, _⟩ := k3.len
          generalize (q.getD j []).length = bl at *
          generalize hL1 : lnS (q.take (j + 1)) = L1 at *
          replace hL1 := Lib.hid hL1
          generalize lnS (q.take j) = L0 at *
          clear hce k3 hjb
          have u3 : (S0 : Int) + (L0 : Int) + (bl : Int) ≤ 1000000000 := by omega
          go_wp2_with fail
          go_roundg (n - (j + 1))
          case measure => omega
          case rel => exact ⟨j + 1, rfl, by omega, by push_cast; rfl, by rw [hL1.out]; push_cast; congr 1; omega, B.out.alloc⟩
        · obtain rfl : j = n := by omega
          have hall : lnS (q.take j) = lnS q := by rw [List.take_of_length_le (by rw [hn.out]; exact Nat.le_refl _)]
          rw [hall] at *
          go_wp2_with fail
          go_roundg (nf - (k + 1))
          case measure => omega
          case rel => exact ⟨k + 1, rfl, by omega, by push_cast; rfl, by rw [hM1.out]; congr 1; omega, by rw [hS1.out]; congr 1; omega, B⟩
    · obtain rfl : k = nf := by omega
      have hall : (S.qs.drop f).take k = S.qs.drop f := List.take_of_length_le (by rw [hdl.out]; exact Nat.le_refl _)
      rw [hall] at *
      go_wp2_with fail
      go_ret2
      exact ⟨rfl, B.out⟩
end Go.Proofs.Ytgiajnfmjpdodaa
