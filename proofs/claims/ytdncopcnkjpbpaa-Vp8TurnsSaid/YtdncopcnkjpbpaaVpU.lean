import Derived.Test.YtdncopcnkjpbpaaVpT
import Derived.Test.YtdncopcnkjpbpaaStr
namespace Go.Proofs.Ytdncopcnkjpbpaa
open Go.RowKit

theorem strOf_ne_self (s : ByteArray) : (s.toList != s.toList) = false := by simp

theorem cells7 {w w1 : World} {B : Nat} {a0 a1 a2 a3 a4 a5 a6 : Value} {t : TypeId} (hb : Below (w.alloc (.cells #[a0, a1, a2, a3, a4, a5, a6] t)).heap.size (w.alloc (.cells #[a0, a1, a2, a3, a4, a5, a6] t)) w1) (hB : B = w.heap.size) :
    w1.cell? ⟨B, 0, none⟩ = some a0 ∧ w1.cell? ⟨B, 1, none⟩ = some a1 ∧ w1.cell? ⟨B, 2, none⟩ = some a2 ∧ w1.cell? ⟨B, 3, none⟩ = some a3 ∧ w1.cell? ⟨B, 4, none⟩ = some a4 ∧ w1.cell? ⟨B, 5, none⟩ = some a5 ∧ w1.cell? ⟨B, 6, none⟩ = some a6 ∧ (∀ i, w1.frozen? ⟨B, i, none⟩ = false) ∧ B < w1.heap.size := by
  subst hB
  have hblk : w1.heap[w.heap.size]? = some (.cells #[a0, a1, a2, a3, a4, a5, a6] t) := by
    rw [hb.block _ (by simp)]; show (w.heap.push _)[w.heap.size]? = _; simp
  have hcs : ∀ i v, #[a0, a1, a2, a3, a4, a5, a6][i]? = some v → w1.cell? ⟨w.heap.size, i, none⟩ = some v := fun i v h => by simp only [World.cell?, hblk]; simpa using h
  exact ⟨hcs 0 _ rfl, hcs 1 _ rfl, hcs 2 _ rfl, hcs 3 _ rfl, hcs 4 _ rfl, hcs 5 _ rfl, hcs 6 _ rfl, fun i => by simp only [World.frozen?, hblk]; simp, by have := hb.size; simp at this; omega⟩

set_option maxRecDepth 100000 in
set_option maxHeartbeats 2000000 in
/-- The law: where there is no number. -/
theorem law_turns_no (sa : Option Addr) (ln cp : Nat) (p : Int) (w : World) (l : List Int) (hl : SlB w sa ln cp l) (b0 : Bool) (n1 : Int) (b2 b3 : Bool) (n4 : Int) (b5 : Bool) (n6 pl er : Int)
    (ho : Hid (vpOut l = (#[.bool b0, .int .u8 n1, .bool b2, .bool b3, .int .u16 n4, .bool b5, .int .i64 n6], pl, er))) (hr : Hid (rOut l = (#[.bool b0, .int .u8 n1, .bool b2, .bool b3, .int .u16 n4, .bool b5, .int .i64 n6], pl, er))) (hno : (er != 0 || !b2) = true) (h2000 : ln ≤ 2000) :
    Calls Try.prog 7 #[.slice sa ln cp, .int .u16 p] w fun e w' => e = .returned (.bool true) ∧ Below w.heap.size w w' := by
  replace hl := Lib.hid hl
  replace hno := Lib.hid hno
  have hnil : ∀ w, (convert 22 9 (.slice none 0 0)).run Try.prog w = .ok (.string ByteArray.empty) w := fun w => run_convert_bytes_nil w 22 5 Try.underlying22 Try.underlying5 0 0 9 Try.underlying9
  go_enter Try.func7, Try.ntmps7
  go_wp2_with fail
  refine (alive13 w).mono ?_
  rintro e w1 ⟨rfl, L1⟩
  have hc1 := conv_slB (hl.out.below L1)
  go_wp2_with fail
  clear hc1
  refine (turn_no l sa ln cp p w1 (hl.out.below L1) _ _ _ _ _ _ _ _ _ ho hno.out).mono ?_
  rintro e w2 ⟨rfl, hb⟩
  have L2 := L1.trans (hb.mono L1.size)
  clear hb
  go_wp2_with fail
  refine (rturn_no l sa ln cp p w2 (hl.out.below L2) _ _ _ _ _ _ _ _ _ hr hno.out).mono ?_
  rintro e w3 ⟨rfl, hb⟩
  have L3 := L2.trans (hb.mono L2.size)
  have hc3 := conv_slB (hl.out.below L3)
  clear hb
  go_wp2
  go_ret
  exact ⟨rfl, L3⟩

set_option maxRecDepth 100000 in
set_option maxHeartbeats 4000000 in
/-- The law: where there is a number. -/
theorem law_turns_yes (sa : Option Addr) (ln cp : Nat) (p : Int) (hp : 0 ≤ p) (hp' : p ≤ 65535) (w : World) (l l' : List Int) (hl : SlB w sa ln cp l) (b0 : Bool) (n1 : Int) (wd : Bool) (n4 : Int) (b5 : Bool) (n6 : Int)
    (ho : Hid (vpOut l = (#[.bool b0, .int .u8 n1, .bool true, .bool wd, .int .u16 n4, .bool b5, .int .i64 n6], 2, 0))) (ho' : Hid (vpOut l' = (#[.bool b0, .int .u8 n1, .bool true, .bool wd, .int .u16 (if wd then p % 32768 else p % 128), .bool b5, .int .i64 n6], 2, 0)))
    (hmem : ∀ x ∈ l', 0 ≤ x ∧ x ≤ 255)
    (ht : ∀ w, SlB w sa ln cp l → Calls Try.prog 19 #[.slice sa ln cp, .int .u16 p] w fun r w' => ∃ v, r = .returned (.tuple #[v, .bool true]) ∧ OwnB w' w.heap.size v l' ∧ Below w.heap.size w w')
    (hrt : ∀ w, SlB w sa ln cp l → Calls Try.prog 20 #[.slice sa ln cp, .int .u16 p] w fun r w' => ∃ v, r = .returned (.tuple #[v, .bool true]) ∧ OwnB w' w.heap.size v l' ∧ Below w.heap.size w w') (h2000 : ln ≤ 2000) :
    Calls Try.prog 7 #[.slice sa ln cp, .int .u16 p] w fun e w' => e = .returned (.bool true) ∧ Below w.heap.size w w' := by
  replace hl := Lib.hid hl
  replace ht := Lib.hid ht
  replace hrt := Lib.hid hrt
  replace hmem := Lib.hid hmem
  go_enter Try.func7, Try.ntmps7
  go_wp2_with fail
  refine (alive13 w).mono ?_
  rintro e w1 ⟨rfl, L1⟩
  have hc1 := conv_slB (hl.out.below L1)
  go_wp2_with fail
  clear hc1
  refine (ht.out w1 (hl.out.below L1)).mono ?_
  rintro e w2 ⟨v, rfl, hv, hb⟩
  have L2 := L1.trans (hb.mono L1.size)
  clear hb
  obtain ⟨va, vc, rfl, hvs⟩ := hv.slB hmem.out
  replace hvs := Lib.hid hvs
  clear hv
  go_wp2_with fail
  refine (hrt.out w2 (hl.out.below L2)).mono ?_
  rintro e w3 ⟨v, rfl, hv, hb⟩
  have L3 := L2.trans (hb.mono L2.size)
  obtain ⟨ua, uc, rfl, hus⟩ := hv.slB hmem.out
  have hvs3 := hvs.out.below hb
  have hc3 := conv_slB (hl.out.below L3)
  have hc4 := conv_slB hvs3
  have hc5 := conv_slB hus
  replace hvs3 := Lib.hid hvs3
  clear hv hb hvs hus
  go_wp2_with fail
  clear hc3 hc4 hc5
  refine (Read_any l sa ln cp w3 (hl.out.below L3) _ _ _ _ _ _ _ _ _ ho).mono ?_
  rintro e w4 ⟨rfl, hb⟩
  have L4 := L3.trans (hb.mono L3.size)
  have hvs4 := Lib.hid (hvs3.out.below hb)
  clear hb hvs3
  go_wp2_with fail
  have hA := (Below.refl w4.heap.size w4).alloc (Nat.le_refl _) (.cells #[.bool b0, .int .u8 n1, .bool true, .bool wd, .int .u16 n4, .bool b5, .int .i64 n6] 26)
  refine (Read_any l' va _ vc _ (hvs4.out.below hA) _ _ _ _ _ _ _ _ _ ho').mono ?_
  rintro e w5 ⟨rfl, hb⟩
  have L5 := (L4.trans (hA.mono L4.size)).trans (hb.mono (by have := L4.size; simp; omega))
  obtain ⟨c0, c1, c2, c3, c4, c5, c6, cf, cz⟩ := cells7 hb rfl
  clear hb hA hvs4
  have cne : w4.heap.size ≠ w5.heap.size := by omega
  cases wd
  all_goals
    dsimp only at *
    simp only [Bool.false_eq_true, if_false, if_true] at *
    go_wp2_with fail
    go_ret
    exact ⟨rfl, L5.alloc L5.size _⟩

/-- The law: too long payloads are not looked at. -/
theorem law_turns_long (sa : Option Addr) (ln cp : Nat) (p : Int) (w : World) (hln : ln ≤ 9223372036854775807) (h2000 : 2000 < ln) :
    Calls Try.prog 7 #[.slice sa ln cp, .int .u16 p] w fun e w' => e = .returned (.bool true) ∧ Below w.heap.size w w' := by
  go_enter Try.func7, Try.ntmps7
  go_wp2_with fail
  refine (alive13 w).mono ?_
  rintro e w1 ⟨rfl, L1⟩
  go_wp2
  go_ret
  exact ⟨rfl, L1⟩

theorem law_turns (sa : Option Addr) (ln cp : Nat) (p : Int) (w : World) (h : Rd w (.loop (.label 4)) [.slice sa ln cp]) (wp : (Lit.int .u16 p).wf = true) :
    Calls Try.prog 7 #[.slice sa ln cp, .int .u16 p] w fun e w' => e = .returned (.bool true) ∧ Below w.heap.size w w' := by
  obtain ⟨l, hl⟩ := SlB_of_Rd h
  obtain ⟨hp, hp'⟩ := bounds_u16 wp
  by_cases h2000 : 2000 < ln
  · exact law_turns_long sa ln cp p w hl.len h2000
  obtain ⟨b0, n1, b2, b3, n4, b5, n6, pl, er, ho⟩ := payT l
  have hm := hl.2.2.2.1
  have hr := ho
  rw [vp_eq l (getD_range hm)] at hr
  by_cases hno : (er != 0 || !b2) = true
  · exact law_turns_no sa ln cp p w l hl b0 n1 b2 b3 n4 b5 n6 pl er (Lib.hid ho) (Lib.hid hr) hno (by omega)
  · simp at hno
    obtain ⟨rfl, rfl⟩ := hno
    obtain ⟨rfl, h2, h3, ht⟩ := turn_law l hm p hp b0 n1 b3 n4 b5 n6 pl hr
    have ht' := ht
    rw [← vp_eq _ (getD_range (turnN_mem hm p b3))] at ht'
    have hn : l.length ≤ 140737488355328 := by have := hl.1; omega
    refine law_turns_yes sa ln cp p hp hp' w l (turnN l p b3) hl b0 n1 b3 n4 b5 n6 (Lib.hid ho) (Lib.hid ht') (turnN_mem hm p b3) (fun w hw => ?_) (fun w hw => ?_) (by omega)
    · cases b3 with
      | false => exact turn_narrow l sa ln cp p w hw hn h2 hp hp' b0 n1 n4 b5 n6 (Lib.hid ho)
      | true => exact turn_wide l sa ln cp p w hw hn (h3 rfl) hp hp' b0 n1 n4 b5 n6 (Lib.hid ho)
    · cases b3 with
      | false => exact rturn_narrow l sa ln cp p w hw hn hp hp' b0 h2 n1 n4 b5 n6 (Lib.hid hr)
      | true => exact rturn_wide l sa ln cp p w hw hn hp hp' b0 (h3 rfl) n1 n4 b5 n6 (Lib.hid hr)
end Go.Proofs.Ytdncopcnkjpbpaa
