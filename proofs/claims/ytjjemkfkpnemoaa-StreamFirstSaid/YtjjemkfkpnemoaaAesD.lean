import Derived.Test.YtjjemkfkpnemoaaAesC
import Derived.Test.YtjjemkfkpnemoaaAesQ
import Derived.Test.YtjjemkfkpnemoaaArr
import Derived.Deep.LoopGhost
namespace Go.Proofs.Ytjjemkfkpnemoaa
open Go.RowKit

theorem zero256 : ∀ w, (zeroValue 23).run Try.prog w = .ok (.agg (ivA .u8 (zeros 256))) w := fun w => by kernel_rfl
theorem info256 : (Try.prog.info? 23).map (·.size) = some 256 := by kernel_rfl

set_option maxRecDepth 100000 in
set_option maxHeartbeats 4000000 in
theorem box_any (w : World) :
    Calls Try.prog 17 #[] w fun e w' => e = .returned (.agg (ivA .u8 sbox)) ∧ Below w.heap.size w w' := by
  go_enter Try.func17, Try.ntmps17
  go_wp2_with (refine wpList_alloc_of rfl 23 rfl _ zero256 ?_)
  go_loopg [2, 3] 255 (fun g p q wx => ∃ k O, g = 255 - k ∧ k < 255 ∧ p = .int .u8 (pl k : Nat) ∧ q = .int .u8 (ql k : Nat) ∧ Hid (O.length = 256 ∧ ∀ j, 1 ≤ j → j ≤ k → O.getD (pl j) 0 = sbox.getD (pl j) 0) ∧ wx = (w.alloc (.cells (ivA .u8 (zeros 256)) 23)).alloc (.cells (ivA .u8 O) 23))
  case atStart => exact ⟨0, _, by omega, by omega, rfl, rfl, Lib.hid ⟨zeros_len _, fun j h1 h2 => by omega⟩, rfl⟩
  case round =>
    obtain ⟨k, O, rfl, hk, rfl, rfl, hO, rfl⟩ := hrel
    obtain ⟨hp, hq, hp1⟩ := pl_lt k (by omega)
    obtain ⟨hp', hq', hp1'⟩ := pl_lt (k + 1) (by omega)
    have hps := Lib.hid (pl_step k hk)
    have hqs := Lib.hid (ql_step k hk)
    have hsb := Lib.hid (sbox_at (k + 1) (by omega) (by omega))
    go_wp2_with fail
    refine (times_any (pl k) 3 hp (by omega) _).mono ?_
    rintro e w' ⟨rfl, rfl⟩
    rw [hps.out]
    go_wp2_with fail
    refine (times_any (ql k) 246 hq (by omega) _).mono ?_
    rintro e w' ⟨rfl, rfl⟩
    rw [hqs.out]
    generalize hP : pl (k + 1) = p' at *
    generalize hQ : ql (k + 1) = q' at *
    replace hP := Lib.hid hP
    replace hQ := Lib.hid hQ
    go_wp2_with fail
    go_loopg [4, 5] 4 (fun g x n wx => ∃ m, g = 4 - m ∧ m ≤ 4 ∧ x = .int .u8 (xr q' m : Nat) ∧ n = .int .i64 ((m : Nat) + 1 : Int) ∧ wx = (w.alloc (.cells (ivA .u8 (zeros 256)) 23)).alloc (.cells (ivA .u8 O) 23))
    case atStart => exact ⟨0, by omega, by omega, rfl, rfl, rfl⟩
    case round =>
      obtain ⟨m, rfl, hm, rfl, rfl, rfl⟩ := hrel
      by_cases hm4 : m < 4
      · have hx := xr_lt q' hq' m
        have hr := rotl8_lt q' (m + 1) hq'
        have hxx := Lib.hid (u8_xor_nat (xr q' m) (rotl8 q' (m + 1)) hx hr)
        have hrot := Lib.hid (rot_any q' (m + 1) hq' ⟨by omega, by omega⟩ ((w.alloc (.cells (ivA .u8 (zeros 256)) 23)).alloc (.cells (ivA .u8 O) 23)))
        go_wp2_with fail
        refine hrot.out.mono ?_
        rintro e w' ⟨rfl, rfl⟩
        go_wp2_with fail
        go_roundg (4 - (m + 1))
        case measure => omega
        case rel => exact ⟨m + 1, rfl, by omega, congrArg (Value.int .u8) hxx.out, by go_num, rfl⟩
      · obtain rfl : m = 4 := by omega
        have hx := xr_lt q' hq' 4
        have hv := u8_xor_nat (xr q' 4) 99 hx (by omega)
        push_cast at hv
        have hOl := hO.out.1
        have hcell := ivA_get .u8 O p' (by omega)
        have hset := fun x : Nat => ivA_set .u8 O p' x
        have hp2 : (p' : Int) ≤ 255 := by omega
        replace hOl := Lib.hid hOl
        have hO' : Hid ((O.set p' (xr q' 4 ^^^ 99)).length = 256 ∧ ∀ j, 1 ≤ j → j ≤ k + 1 → (O.set p' (xr q' 4 ^^^ 99)).getD (pl j) 0 = sbox.getD (pl j) 0) := by
          refine ⟨by rw [List.length_set]; exact hOl.out, fun j h1 h2 => ?_⟩
          by_cases hj : pl j = p'
          · rw [hj, List.getD_eq_getElem?_getD, List.getElem?_set_self (by rw [hOl.out]; omega)]
            simpa [Hid] using hsb.out.symm
          · have hjk : j ≤ k := by
              rcases Nat.lt_or_ge k j with h | h
              · have : j = k + 1 := by omega
                subst this
                exact (hj hP.out).elim
              · exact h
            have := hO.out.2 j h1 hjk
            rw [List.getD_eq_getElem?_getD] at this ⊢
            rw [List.getElem?_set_ne (by omega)]
            exact this
        by_cases hend : k + 1 = 255
        · have hp1 : Hid (p' = 1) := by show p' = 1; rw [← hP.out, hend]; exact pl_end
          have hpe : ((p' : Int) == 1) = true := by simp [hp1.out]
          have hc0 := ivA_get .u8 (O.set p' (xr q' 4 ^^^ 99)) 0 (by rw [List.length_set, hOl.out]; omega)
          have hs0 : (ivA .u8 (O.set p' (xr q' 4 ^^^ 99))).setIfInBounds 0 (.int .u8 99) = ivA .u8 ((O.set p' (xr q' 4 ^^^ 99)).set 0 99) := ivA_set .u8 _ 0 99
          have htab : Hid ((O.set p' (xr q' 4 ^^^ 99)).set 0 99 = sbox) := table_end _ hO'.out.1 fun j h1 h2 => hO'.out.2 j h1 (by omega)
          have hsz : Hid (((O.set p' (xr q' 4 ^^^ 99)).set 0 99).length = 256) := by show _ = _; rw [List.length_set]; exact hO'.out.1
          have hg0 := heap_alloc2_old w (.cells (ivA .u8 (zeros 256)) 23) (.cells (ivA .u8 ((O.set p' (xr q' 4 ^^^ 99)).set 0 99)) 23)
          have hg1 := heap_alloc2_new w (.cells (ivA .u8 (zeros 256)) 23) (.cells (ivA .u8 ((O.set p' (xr q' 4 ^^^ 99)).set 0 99)) 23)
          have L : Below w.heap.size w ((w.alloc (.cells (ivA .u8 (zeros 256)) 23)).alloc (.cells (ivA .u8 ((O.set p' (xr q' 4 ^^^ 99)).set 0 99)) 23)) := ((Below.refl _ _).alloc (Nat.le_refl _) _).alloc (by simp) _
          replace hg0 := Lib.hid hg0
          replace hg1 := Lib.hid hg1
          clear hend
          go_wp2_with (first | (refine wpList_load_row rfl 23 _ rfl _ rfl _ _ _ _ hg1.out Try.underlying23 rfl (by rw [info256, ivA_size, hsz.out]) ?_) | (refine wpList_store_row rfl 23 _ _ rfl _ _ rfl rfl _ _ hg0.out (by rw [info256, ivA_size, hsz.out]) (by rw [ivA_size, ivA_size, zeros_len, hsz.out]) (ivA_one _ _) ?_))
          refine bodyPost_ret (results_cell_row (p := 0) rfl _ _ w.heap.size _ _ _ _ rfl (setRow_get _ _ _ _ _ _ hg0.out) Try.underlying23 rfl (by rw [info256, ivA_size, hsz.out])) rfl ⟨?_, Below.setRow L (Nat.le_refl _) _⟩
          rw [htab.out]
        · have hpe : ((p' : Int) == 1) = false := by
            have := pl_one (k + 1) (by omega) (by omega)
            rw [hP.out] at this
            simp; omega
          go_wp2_with fail
          go_roundg (255 - (k + 1))
          case measure => omega
          case rel => exact ⟨k + 1, _, rfl, by omega, by rw [hP.out], by rw [hQ.out], hO', rfl⟩
end Go.Proofs.Ytjjemkfkpnemoaa
