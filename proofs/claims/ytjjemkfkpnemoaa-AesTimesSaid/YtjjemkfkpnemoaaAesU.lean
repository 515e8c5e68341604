import Derived.Test.YtjjemkfkpnemoaaAesT
import Derived.Test.YtjjemkfkpnemoaaAesS
import Derived.Test.YtjjemkfkpnemoaaQr
namespace Go.Proofs.Ytjjemkfkpnemoaa
open Go.RowKit

set_option maxRecDepth 100000 in
set_option maxHeartbeats 4000000 in
theorem times_walk (a b : Nat) (ha : a < 256) (hb : b < 256) (w : World) :
    Calls Try.prog 3 #[.int .u8 (a : Nat), .int .u8 (b : Nat)] w fun e w' => e = .returned (.bool true) ∧ Below w.heap.size w w' := by
  have t1 := Lib.hid (times_any a b ha hb)
  have t2 := Lib.hid (rtimes_any a b ha hb)
  have t3 := Lib.hid (rbox_any a ha)
  have ca := sbox_inj a b ha hb
  go_enter Try.func3, Try.ntmps3
  go_wp2_with fail
  refine (alive_any _).mono ?_
  rintro e w1 ⟨rfl, hb1⟩
  go_wp2_with fail
  refine (box_any _).mono ?_
  rintro e w2 ⟨rfl, hb2⟩
  have q2 := hb1.trans (hb2.mono hb1.size)
  have hnew := Lib.hid (al_new w2 (.cells (ivA .u8 (zeros 256)) 23) _ rfl)
  go_wp2_with (first | (refine wpList_alloc_of rfl 23 rfl _ zero256 ?_) | (refine wpList_store_row rfl 23 _ _ rfl _ _ rfl rfl _ _ hnew.out (by rw [info256, ivA_size, sbox_len]) (by rw [ivA_size, ivA_size, zeros_len, sbox_len]) (ivA_one _ _) ?_))
  rw [World.setRow_alloc_new]
  have L := (q2.alloc (by have := q2.size; omega) (.cells (ivA .u8 sbox) 23))
  generalize hw0 : World.alloc w2 (.cells (ivA .u8 sbox) 23) = w0 at *
  have H : w0.heap[w2.heap.size]? = some (.cells (ivA .u8 sbox) 23 (0, 0)) := by rw [← hw0]; exact al_new _ _ _ rfl
  have ca1 : ∀ x : Later w0, x.now.cell? ⟨w2.heap.size, a, none⟩ = some (.int .u8 (sbox.getD a 0 : Nat)) := fun x => x.cell (row_cell (w := w0) H a (by rw [sbox_len]; exact ha))
  have cb1 : ∀ x : Later w0, x.now.cell? ⟨w2.heap.size, b, none⟩ = some (.int .u8 (sbox.getD b 0 : Nat)) := fun x => x.cell (row_cell (w := w0) H b (by rw [sbox_len]; exact hb))
  have a0 : (0 : Int) ≤ a := by omega
  have a1 : (a : Int) < 256 := by omega
  have a2 : (a : Int).toNat = a := rfl
  have b0 : (0 : Int) ≤ b := by omega
  have b1 : (b : Int) < 256 := by omega
  have b2 : (b : Int).toNat = b := rfl
  clear hw0 H hnew
  replace L := Lib.hid L
  have hxy : ¬ sbox.getD a 0 = sbox.getD b 0 ∨ a = b := by
    by_cases h : sbox.getD a 0 = sbox.getD b 0
    · exact Or.inr (ca h)
    · exact Or.inl h
  clear ca
  generalize sbox.getD a 0 = x at *
  generalize sbox.getD b 0 = y at *
  by_cases hab : a = b
  · have e1 : ((a : Int) == (b : Int)) = true := by rw [hab]; simp
    replace hab := Lib.hid hab
    simp only [Act.put, List.setIfInBounds_toArray, List.set_cons_succ, List.set_cons_zero]
    refine wp_region_later (by kernel_rfl) (by kernel_rfl) ?_
    repeat (go_big_quiet_step ((first | (go_at_call 18; exact Calls.later_same (t1.out _)) | (go_at_call 19; exact Calls.later_same (t2.out _)) | (go_at_call 20; exact Calls.later_same (t3.out _)))))
    refine wpQuiet_nil ?_
    rintro _ ⟨z, rfl⟩
    go_wp2
    go_ret
    exact ⟨rfl, L.out.trans (z.ok.mono L.out.size)⟩
  · have e1 : ((a : Int) == (b : Int)) = false := by rw [beq_eq_false_iff_ne]; omega
    have hxy' : ¬ x = y := hxy.resolve_right hab
    have e2 : ((x : Int) != (y : Int)) = true := by rw [bne_iff_ne]; omega
    simp only [Act.put, List.setIfInBounds_toArray, List.set_cons_succ, List.set_cons_zero]
    refine wp_region_later (by kernel_rfl) (by kernel_rfl) ?_
    repeat (go_big_quiet_step ((first | (go_at_call 18; exact Calls.later_same (t1.out _)) | (go_at_call 19; exact Calls.later_same (t2.out _)) | (go_at_call 20; exact Calls.later_same (t3.out _)))))
    refine wpQuiet_nil ?_
    rintro _ ⟨z, rfl⟩
    go_wp2
    go_ret
    exact ⟨rfl, L.out.trans (z.ok.mono L.out.size)⟩

theorem law_times (a b : Int) (w : World) (wa : (Lit.int .u8 a).wf = true) (wb : (Lit.int .u8 b).wf = true) :
    Calls Try.prog 3 #[.int .u8 a, .int .u8 b] w fun e w' => e = .returned (.bool true) ∧ Below w.heap.size w w' := by
  have ha := bounds_u8 wa
  have hb := bounds_u8 wb
  obtain ⟨a, rfl⟩ := Int.eq_ofNat_of_zero_le ha.1
  obtain ⟨b, rfl⟩ := Int.eq_ofNat_of_zero_le hb.1
  exact times_walk a b (by omega) (by omega) w
end Go.Proofs.Ytjjemkfkpnemoaa
