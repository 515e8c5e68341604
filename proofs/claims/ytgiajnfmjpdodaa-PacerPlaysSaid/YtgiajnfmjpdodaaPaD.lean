/- pacer: New; room. No condition but the sizes'. -/
import Derived.Test.YtgiajnfmjpdodaaPaC
namespace Go.Proofs.Ytgiajnfmjpdodaa
open Go.RowKit

def newS (rate burst packets bytes : Int) : PcS := ⟨rate, burst, burst, packets, bytes, [[], [], [], []], 0⟩
def nil4 : List Value := [.slice none 0 0, .slice none 0 0, .slice none 0 0, .slice none 0 0]
theorem nil4_get (c : Nat) (hc : c < 4) : nil4.getD c undef = .slice none 0 0 := by
  match c, hc with
  | 0, _ => rfl
  | 1, _ => rfl
  | 2, _ => rfl
  | 3, _ => rfl
theorem e4_get (c : Nat) : ([[], [], [], []] : List (List (List Nat))).getD c [] = [] := by
  match c with
  | 0 => rfl
  | 1 => rfl
  | 2 => rfl
  | 3 => rfl
  | c + 4 => rfl
set_option maxRecDepth 100000 in
set_option maxHeartbeats 8000000 in
theorem pnew_ok (rate burst packets bytes : Int) (w : World) (hp : 1 ≤ packets) (hy : 1 ≤ bytes) :
    Calls Try.prog 22 #[.int .u64 rate, .int .u64 burst, .int .i64 packets, .int .i64 bytes] w fun e w' => ∃ g gb, e = .returned (.pointer (some ⟨g, 0, none⟩)) ∧ (∀ base, PacV w' base g gb nil4 (newS rate burst packets bytes)) ∧ w.heap.size ≤ g ∧ w.heap.size ≤ gb ∧ BW w w' := by
  have d1 : decide (packets < 1) = false := by simp; omega
  have d2 : decide (bytes < 1) = false := by simp; omega
  have c := Lib.hid (new_any rate burst w)
  go_enter Try.func22, Try.ntmps22
  go_wp2_with fail
  refine Calls.mono c.out ?_
  rintro e w1 ⟨rfl, rfl⟩
  dsimp only
  go_wp2_with fail
  go_ret
  have B1 : BW w (w.alloc (.cells #[.int .u64 rate, .int .u64 burst, .int .u64 burst] 145)) := (BW.refl _).alloc
  have K : Bk (w.alloc (.cells #[.int .u64 rate, .int .u64 burst, .int .u64 burst] 145)) w.heap.size rate burst burst := heap_alloc_new w _
  refine ⟨w.heap.size + 1, w.heap.size, by simp, fun base => ⟨hp_new _ _ _ (by simp), BW.heap ((BW.refl _).alloc) K, rfl, rfl, fun c hc => ?_, fun c d hc _ _ => ?_⟩, by omega, by omega, B1.alloc⟩
  · rw [nil4_get c hc]
    unfold qAt newS
    rw [e4_get]
    exact PQ.nil _ _
  · rw [nil4_get c hc]
    exact Apt.nil _
set_option maxRecDepth 100000 in
set_option maxHeartbeats 8000000 in
theorem pnew_no (rate burst packets bytes : Int) (w : World) (h : packets < 1 ∨ bytes < 1) :
    Calls Try.prog 22 #[.int .u64 rate, .int .u64 burst, .int .i64 packets, .int .i64 bytes] w fun e w' => e = .returned (.pointer none) ∧ w = w' := by
  by_cases hp : packets < 1
  · have d1 : decide (packets < 1) = true := by simpa using hp
    go_enter Try.func22, Try.ntmps22
    go_wp2_with fail
    go_ret
    exact ⟨rfl, rfl⟩
  · have d1 : decide (packets < 1) = false := by simpa using hp
    have d2 : decide (bytes < 1) = true := by simp; omega
    go_enter Try.func22, Try.ntmps22
    go_wp2_with fail
    go_ret
    exact ⟨rfl, rfl⟩

/-- Is there room for n bytes, if so many packets and bytes weren't there? -/
def roomB (S : PcS) (many size n : Nat) : Bool := decide ((mny S.qs : Int) - many < S.packets ∧ (n : Int) ≤ S.bytes ∧ (siz S.qs : Int) - size ≤ S.bytes - n)
structure PcB (S : PcS) : Prop where
  m : mny S.qs ≤ 1000000
  s : siz S.qs ≤ 1000000000
  p0 : 1 ≤ S.packets
  p1 : S.packets ≤ 9223372036854775807
  b0 : 1 ≤ S.bytes
  b1 : S.bytes ≤ 9223372036854775807
set_option maxRecDepth 100000 in
set_option maxHeartbeats 8000000 in
theorem room_any (base g gb pb nb many size n : Nat) (vs : List Value) (S : PcS) (w : World) (h : PacV w base g gb vs S) (hB : PcB S) (hp : w.cell? ⟨pb, 0, none⟩ = some (.pointer (some ⟨g, 0, none⟩))) (hn : w.cell? ⟨nb, 0, none⟩ = some (.int .i64 (n : Nat)))
    (h1 : many ≤ 1000000) (h2 : size ≤ 1000000000) (h3 : n ≤ 1000000) :
    Calls Try.prog 57 #[.int .i64 (many : Nat), .int .i64 (size : Nat), .pointer (some ⟨pb, 0, none⟩), .pointer (some ⟨nb, 0, none⟩)] w fun e w' => e = .returned (.bool (roomB S many size n)) ∧ BW w w' := by
  have hH := Lib.hid h
  have z2 : w.cell? ⟨g, 2, none⟩ = some (.int .i64 S.packets) := hp_cell h.cells 2
  have z3 : w.cell? ⟨g, 3, none⟩ = some (.int .i64 S.bytes) := hp_cell h.cells 3
  have cL := fun wz (hb : BW w wz) => Lib.hid (len_any base g gb vs S wz (hH.out.bw hb) hB.m hB.s)
  have cS := fun wz (hb : BW w wz) => Lib.hid (size_any base g gb vs S wz (hH.out.bw hb) hB.m hB.s)
  clear h
  have i1 := hB.m
  have i2 := hB.s
  have i3 := hB.p0
  have i4 := hB.p1
  have i5 := hB.b0
  have i6 := hB.b1
  have hR : roomB S many size n = decide ((mny S.qs : Int) - many < S.packets ∧ (n : Int) ≤ S.bytes ∧ (siz S.qs : Int) - size ≤ S.bytes - n) := rfl
  rw [hR]
  clear hR hB hH
  generalize mny S.qs = M at *
  generalize siz S.qs = Z at *
  generalize S.packets = pk at *
  generalize S.bytes = by_ at *
  have q1 : IntKind.i64.wrap ((M : Int) - (many : Int)) = (M : Int) - (many : Int) := IntWalk.i64_in _ (by omega)
  have q2 : IntKind.i64.wrap ((Z : Int) - (size : Int)) = (Z : Int) - (size : Int) := IntWalk.i64_in _ (by omega)
  have q3 : IntKind.i64.wrap (by_ - (n : Int)) = by_ - (n : Int) := IntWalk.i64_in _ (by omega)
  have lp := fun x : LaterS [] w => x.cell hp (by simp)
  have l2 := fun x : LaterS [] w => x.cell z2 (by simp)
  replace hp := Lib.hid hp
  replace hn := Lib.hid hn
  replace z2 := Lib.hid z2
  replace z3 := Lib.hid z3
  by_cases hA : (M : Int) - many < pk
  case neg =>
    have dA : decide ((M : Int) - (many : Int) < pk) = false := by simpa using hA
    rw [decide_eq_false (fun h => hA h.1)]
    go_enter Try.func57, Try.ntmps57
    go_upto_region 1 with (fail)
    refine wp_region_gg [] [] [] (by kernel_rfl) ?_
    refine hoist [] [] (a1 := ?_) 0 rfl (by kernel_rfl) (.inl ⟨rfl, rfl⟩) rfl rfl rfl (fun x K hK => ?_) ?_
    rotate_left
    · go_big_quiet_op
      exact hK
    refine hoist [] [] (a1 := ?_) 2 rfl (by kernel_rfl) (.inl ⟨rfl, rfl⟩) rfl rfl rfl (fun x K hK => ?_) ?_
    rotate_left
    · go_big_quiet_op
      exact hK
    refine hoist [] [] (a1 := ?_) 4 rfl (by kernel_rfl) (.inl ⟨rfl, rfl⟩) rfl rfl rfl (fun x K hK => ?_) ?_
    rotate_left
    · go_big_quiet_op
      exact hK
    refine hoist [] [] (a1 := ?_) 5 rfl (by kernel_rfl) (.inl ⟨rfl, rfl⟩) rfl rfl rfl (fun x K hK => ?_) ?_
    rotate_left
    · go_big_quiet_op
      exact hK
    refine hoist [] [] (a1 := ?_) 6 rfl (by kernel_rfl) (.inl ⟨rfl, rfl⟩) rfl rfl rfl (fun x K hK => ?_) ?_
    rotate_left
    · go_big_quiet_op
      exact hK
    refine hoist [] [] (a1 := ?_) 7 rfl (by kernel_rfl) (.inl ⟨rfl, rfl⟩) rfl rfl rfl (fun x K hK => ?_) ?_
    rotate_left
    · go_big_quiet_op
      exact hK
    refine effect 1 rfl (by kernel_rfl) (by kernel_rfl) rfl (fun x1 K hK => ?_)
    go_simp
    refine Calls.mono (cL x1.now x1.bw).out ?_
    rintro e wa ⟨rfl, hb⟩
    refine hK _ _ (Still.of_below hb) ?_
    clear hK K lp l2
    have Wa := Lib.hid (BW.call x1.bw hb)
    clear hb
    try simp only [Act.put, List.setIfInBounds_toArray, List.set_cons_succ, List.set_cons_zero]
    refine hoist [] [] (a1 := ?_) 3 rfl (by kernel_rfl) (.inl ⟨rfl, rfl⟩) rfl rfl rfl (fun x K hK => ?_) ?_
    rotate_left
    · go_big_quiet_op
      exact hK
    refine hoist [] [] (a1 := ?_) 8 rfl (by kernel_rfl) (.inl ⟨rfl, rfl⟩) rfl rfl rfl (fun x K hK => ?_) ?_
    rotate_left
    · go_big_quiet_op
      exact hK
    refine hoist [] [] (a1 := ?_) 9 rfl (by kernel_rfl) (.inl ⟨rfl, rfl⟩) rfl rfl rfl (fun x K hK => ?_) ?_
    rotate_left
    · go_big_quiet_op
      exact hK
    refine hoist_skip [] [] 10 rfl (by kernel_rfl) (.inl ⟨rfl, rfl⟩) rfl (a1 := ?_) ?_ ?_
    rotate_left
    · simp only [Act.put, List.setIfInBounds_toArray, List.set_cons_succ, List.set_cons_zero]; rfl
    refine hoist_skip [] [] 11 rfl (by kernel_rfl) (.inl ⟨rfl, rfl⟩) rfl (a1 := ?_) ?_ ?_
    rotate_left
    · simp only [Act.put, List.setIfInBounds_toArray, List.set_cons_succ, List.set_cons_zero]; rfl
    refine hoist_skip [] [] 12 rfl (by kernel_rfl) (.inl ⟨rfl, rfl⟩) rfl (a1 := ?_) ?_ ?_
    rotate_left
    · simp only [Act.put, List.setIfInBounds_toArray, List.set_cons_succ, List.set_cons_zero]; rfl
    refine hoist_skip [] [] 13 rfl (by kernel_rfl) (.inl ⟨rfl, rfl⟩) rfl (a1 := ?_) ?_ ?_
    rotate_left
    · simp only [Act.put, List.setIfInBounds_toArray, List.set_cons_succ, List.set_cons_zero]; rfl
    refine hoist_skip [] [] 14 rfl (by kernel_rfl) (.inl ⟨rfl, rfl⟩) rfl (a1 := ?_) ?_ ?_
    rotate_left
    · simp only [Act.put, List.setIfInBounds_toArray, List.set_cons_succ, List.set_cons_zero]; rfl
    refine hoist_skip [] [] 15 rfl (by kernel_rfl) (.inl ⟨rfl, rfl⟩) rfl (a1 := ?_) ?_ ?_
    rotate_left
    · simp only [Act.put, List.setIfInBounds_toArray, List.set_cons_succ, List.set_cons_zero]; rfl
    refine hoist [] [] (a1 := ?_) 16 rfl (by kernel_rfl) (.inl ⟨rfl, rfl⟩) rfl rfl rfl (fun x K hK => ?_) ?_
    rotate_left
    · go_big_quiet_op
      exact hK
    refine hoist [] [] (a1 := ?_) 17 rfl (by kernel_rfl) (.inl ⟨rfl, rfl⟩) rfl rfl rfl (fun x K hK => ?_) ?_
    rotate_left
    · go_big_quiet_op
      exact hK
    refine hoist_skip [] [] 18 rfl (by kernel_rfl) (.inl ⟨rfl, rfl⟩) rfl (a1 := ?_) ?_ ?_
    rotate_left
    · simp only [Act.put, List.setIfInBounds_toArray, List.set_cons_succ, List.set_cons_zero]; rfl
    refine hoist_skip [] [] 19 rfl (by kernel_rfl) (.inl ⟨rfl, rfl⟩) rfl (a1 := ?_) ?_ ?_
    rotate_left
    · simp only [Act.put, List.setIfInBounds_toArray, List.set_cons_succ, List.set_cons_zero]; rfl
    refine hoist_skip [] [] 20 rfl (by kernel_rfl) (.inl ⟨rfl, rfl⟩) rfl (a1 := ?_) ?_ ?_
    rotate_left
    · simp only [Act.put, List.setIfInBounds_toArray, List.set_cons_succ, List.set_cons_zero]; rfl
    refine hoist_skip [] [] 21 rfl (by kernel_rfl) (.inl ⟨rfl, rfl⟩) rfl (a1 := ?_) ?_ ?_
    rotate_left
    · simp only [Act.put, List.setIfInBounds_toArray, List.set_cons_succ, List.set_cons_zero]; rfl
    refine hoist_skip [] [] 22 rfl (by kernel_rfl) (.inl ⟨rfl, rfl⟩) rfl (a1 := ?_) ?_ ?_
    rotate_left
    · simp only [Act.put, List.setIfInBounds_toArray, List.set_cons_succ, List.set_cons_zero]; rfl
    refine hoist_skip [] [] 23 rfl (by kernel_rfl) (.inl ⟨rfl, rfl⟩) rfl (a1 := ?_) ?_ ?_
    rotate_left
    · simp only [Act.put, List.setIfInBounds_toArray, List.set_cons_succ, List.set_cons_zero]; rfl
    refine hoist_skip [] [] 24 rfl (by kernel_rfl) (.inl ⟨rfl, rfl⟩) rfl (a1 := ?_) ?_ ?_
    rotate_left
    · simp only [Act.put, List.setIfInBounds_toArray, List.set_cons_succ, List.set_cons_zero]; rfl
    refine hoist_skip [] [] 25 rfl (by kernel_rfl) (.inl ⟨rfl, rfl⟩) rfl (a1 := ?_) ?_ ?_
    rotate_left
    · simp only [Act.put, List.setIfInBounds_toArray, List.set_cons_succ, List.set_cons_zero]; rfl
    refine hoist_skip [] [] 26 rfl (by kernel_rfl) (.inl ⟨rfl, rfl⟩) rfl (a1 := ?_) ?_ ?_
    rotate_left
    · simp only [Act.put, List.setIfInBounds_toArray, List.set_cons_succ, List.set_cons_zero]; rfl
    refine hoist_skip [] [] 27 rfl (by kernel_rfl) (.inl ⟨rfl, rfl⟩) rfl (a1 := ?_) ?_ ?_
    rotate_left
    · simp only [Act.put, List.setIfInBounds_toArray, List.set_cons_succ, List.set_cons_zero]; rfl
    refine hoist_skip [] [] 28 rfl (by kernel_rfl) (.inl ⟨rfl, rfl⟩) rfl (a1 := ?_) ?_ ?_
    rotate_left
    · simp only [Act.put, List.setIfInBounds_toArray, List.set_cons_succ, List.set_cons_zero]; rfl
    refine hoist [] [] (a1 := ?_) 29 rfl (by kernel_rfl) (.inl ⟨rfl, rfl⟩) rfl rfl rfl (fun x K hK => ?_) ?_
    rotate_left
    · go_big_quiet_op
      exact hK
    refine hoist [] [] (a1 := ?_) 30 rfl (by kernel_rfl) (.inl ⟨rfl, rfl⟩) rfl rfl rfl (fun x K hK => ?_) ?_
    rotate_left
    · go_big_quiet_op
      exact hK
    refine done (by kernel_rfl) (fun xr => ?_)
    have W2 := Lib.hid (Wa.out.trans xr.bw)
    go_wp2_with fail
    go_ret
    exact ⟨rfl, W2.out⟩
  have dA : decide ((M : Int) - (many : Int) < pk) = true := by simpa using hA
  by_cases hB : (n : Int) ≤ by_
  case neg =>
    have dB : decide ((n : Int) ≤ by_) = false := by simpa using hB
    rw [decide_eq_false (fun h => hB h.2.1)]
    go_enter Try.func57, Try.ntmps57
    go_upto_region 1 with (fail)
    refine wp_region_gg [] [] [] (by kernel_rfl) ?_
    refine hoist [] [] (a1 := ?_) 0 rfl (by kernel_rfl) (.inl ⟨rfl, rfl⟩) rfl rfl rfl (fun x K hK => ?_) ?_
    rotate_left
    · go_big_quiet_op
      exact hK
    refine hoist [] [] (a1 := ?_) 2 rfl (by kernel_rfl) (.inl ⟨rfl, rfl⟩) rfl rfl rfl (fun x K hK => ?_) ?_
    rotate_left
    · go_big_quiet_op
      exact hK
    refine hoist [] [] (a1 := ?_) 4 rfl (by kernel_rfl) (.inl ⟨rfl, rfl⟩) rfl rfl rfl (fun x K hK => ?_) ?_
    rotate_left
    · go_big_quiet_op
      exact hK
    refine hoist [] [] (a1 := ?_) 5 rfl (by kernel_rfl) (.inl ⟨rfl, rfl⟩) rfl rfl rfl (fun x K hK => ?_) ?_
    rotate_left
    · go_big_quiet_op
      exact hK
    refine hoist [] [] (a1 := ?_) 6 rfl (by kernel_rfl) (.inl ⟨rfl, rfl⟩) rfl rfl rfl (fun x K hK => ?_) ?_
    rotate_left
    · go_big_quiet_op
      exact hK
    refine hoist [] [] (a1 := ?_) 7 rfl (by kernel_rfl) (.inl ⟨rfl, rfl⟩) rfl rfl rfl (fun x K hK => ?_) ?_
    rotate_left
    · go_big_quiet_op
      exact hK
    refine effect 1 rfl (by kernel_rfl) (by kernel_rfl) rfl (fun x1 K hK => ?_)
    go_simp
    refine Calls.mono (cL x1.now x1.bw).out ?_
    rintro e wa ⟨rfl, hb⟩
    refine hK _ _ (Still.of_below hb) ?_
    clear hK K lp l2
    have Wa := Lib.hid (BW.call x1.bw hb)
    clear hb
    have lp := fun x : LaterS [] wa => x.cell (Wa.out.cell hp.out) (by simp)
    have ln := fun x : LaterS [] wa => x.cell (Wa.out.cell hn.out) (by simp)
    have l3 := fun x : LaterS [] wa => x.cell (Wa.out.cell z3.out) (by simp)
    try simp only [Act.put, List.setIfInBounds_toArray, List.set_cons_succ, List.set_cons_zero]
    refine hoist [] [] (a1 := ?_) 3 rfl (by kernel_rfl) (.inl ⟨rfl, rfl⟩) rfl rfl rfl (fun x K hK => ?_) ?_
    rotate_left
    · go_big_quiet_op
      exact hK
    refine hoist [] [] (a1 := ?_) 8 rfl (by kernel_rfl) (.inl ⟨rfl, rfl⟩) rfl rfl rfl (fun x K hK => ?_) ?_
    rotate_left
    · go_big_quiet_op
      exact hK
    refine hoist [] [] (a1 := ?_) 9 rfl (by kernel_rfl) (.inl ⟨rfl, rfl⟩) rfl rfl rfl (fun x K hK => ?_) ?_
    rotate_left
    · go_big_quiet_op
      exact hK
    refine hoist [] [] (a1 := ?_) 10 rfl (by kernel_rfl) (.inl ⟨rfl, rfl⟩) rfl rfl rfl (fun x K hK => ?_) ?_
    rotate_left
    · go_big_quiet_op
      exact hK
    refine hoist [] [] (a1 := ?_) 11 rfl (by kernel_rfl) (.inl ⟨rfl, rfl⟩) rfl rfl rfl (fun x K hK => ?_) ?_
    rotate_left
    · go_big_quiet_op
      exact hK
    refine hoist [] [] (a1 := ?_) 12 rfl (by kernel_rfl) (.inl ⟨rfl, rfl⟩) rfl rfl rfl (fun x K hK => ?_) ?_
    rotate_left
    · go_big_quiet_op
      exact hK
    refine hoist [] [] (a1 := ?_) 13 rfl (by kernel_rfl) (.inl ⟨rfl, rfl⟩) rfl rfl rfl (fun x K hK => ?_) ?_
    rotate_left
    · go_big_quiet_op
      exact hK
    refine hoist [] [] (a1 := ?_) 14 rfl (by kernel_rfl) (.inl ⟨rfl, rfl⟩) rfl rfl rfl (fun x K hK => ?_) ?_
    rotate_left
    · go_big_quiet_op
      exact hK
    refine hoist [] [] (a1 := ?_) 15 rfl (by kernel_rfl) (.inl ⟨rfl, rfl⟩) rfl rfl rfl (fun x K hK => ?_) ?_
    rotate_left
    · go_big_quiet_op
      exact hK
    refine hoist [] [] (a1 := ?_) 16 rfl (by kernel_rfl) (.inl ⟨rfl, rfl⟩) rfl rfl rfl (fun x K hK => ?_) ?_
    rotate_left
    · go_big_quiet_op
      exact hK
    refine hoist [] [] (a1 := ?_) 17 rfl (by kernel_rfl) (.inl ⟨rfl, rfl⟩) rfl rfl rfl (fun x K hK => ?_) ?_
    rotate_left
    · go_big_quiet_op
      exact hK
    refine hoist_skip [] [] 18 rfl (by kernel_rfl) (.inl ⟨rfl, rfl⟩) rfl (a1 := ?_) ?_ ?_
    rotate_left
    · simp only [Act.put, List.setIfInBounds_toArray, List.set_cons_succ, List.set_cons_zero]; rfl
    refine hoist_skip [] [] 19 rfl (by kernel_rfl) (.inl ⟨rfl, rfl⟩) rfl (a1 := ?_) ?_ ?_
    rotate_left
    · simp only [Act.put, List.setIfInBounds_toArray, List.set_cons_succ, List.set_cons_zero]; rfl
    refine hoist_skip [] [] 20 rfl (by kernel_rfl) (.inl ⟨rfl, rfl⟩) rfl (a1 := ?_) ?_ ?_
    rotate_left
    · simp only [Act.put, List.setIfInBounds_toArray, List.set_cons_succ, List.set_cons_zero]; rfl
    refine hoist_skip [] [] 21 rfl (by kernel_rfl) (.inl ⟨rfl, rfl⟩) rfl (a1 := ?_) ?_ ?_
    rotate_left
    · simp only [Act.put, List.setIfInBounds_toArray, List.set_cons_succ, List.set_cons_zero]; rfl
    refine hoist_skip [] [] 22 rfl (by kernel_rfl) (.inl ⟨rfl, rfl⟩) rfl (a1 := ?_) ?_ ?_
    rotate_left
    · simp only [Act.put, List.setIfInBounds_toArray, List.set_cons_succ, List.set_cons_zero]; rfl
    refine hoist_skip [] [] 23 rfl (by kernel_rfl) (.inl ⟨rfl, rfl⟩) rfl (a1 := ?_) ?_ ?_
    rotate_left
    · simp only [Act.put, List.setIfInBounds_toArray, List.set_cons_succ, List.set_cons_zero]; rfl
    refine hoist_skip [] [] 24 rfl (by kernel_rfl) (.inl ⟨rfl, rfl⟩) rfl (a1 := ?_) ?_ ?_
    rotate_left
    · simp only [Act.put, List.setIfInBounds_toArray, List.set_cons_succ, List.set_cons_zero]; rfl
    refine hoist_skip [] [] 25 rfl (by kernel_rfl) (.inl ⟨rfl, rfl⟩) rfl (a1 := ?_) ?_ ?_
    rotate_left
    · simp only [Act.put, List.setIfInBounds_toArray, List.set_cons_succ, List.set_cons_zero]; rfl
    refine hoist_skip [] [] 26 rfl (by kernel_rfl) (.inl ⟨rfl, rfl⟩) rfl (a1 := ?_) ?_ ?_
    rotate_left
    · simp only [Act.put, List.setIfInBounds_toArray, List.set_cons_succ, List.set_cons_zero]; rfl
    refine hoist_skip [] [] 27 rfl (by kernel_rfl) (.inl ⟨rfl, rfl⟩) rfl (a1 := ?_) ?_ ?_
    rotate_left
    · simp only [Act.put, List.setIfInBounds_toArray, List.set_cons_succ, List.set_cons_zero]; rfl
    refine hoist_skip [] [] 28 rfl (by kernel_rfl) (.inl ⟨rfl, rfl⟩) rfl (a1 := ?_) ?_ ?_
    rotate_left
    · simp only [Act.put, List.setIfInBounds_toArray, List.set_cons_succ, List.set_cons_zero]; rfl
    refine hoist [] [] (a1 := ?_) 29 rfl (by kernel_rfl) (.inl ⟨rfl, rfl⟩) rfl rfl rfl (fun x K hK => ?_) ?_
    rotate_left
    · go_big_quiet_op
      exact hK
    refine hoist [] [] (a1 := ?_) 30 rfl (by kernel_rfl) (.inl ⟨rfl, rfl⟩) rfl rfl rfl (fun x K hK => ?_) ?_
    rotate_left
    · go_big_quiet_op
      exact hK
    refine done (by kernel_rfl) (fun xr => ?_)
    have W2 := Lib.hid (Wa.out.trans xr.bw)
    go_wp2_with fail
    go_ret
    exact ⟨rfl, W2.out⟩
  have dB : decide ((n : Int) ≤ by_) = true := by simpa using hB
  rw [show decide ((M : Int) - many < pk ∧ (n : Int) ≤ by_ ∧ (Z : Int) - size ≤ by_ - n) = decide ((Z : Int) - size ≤ by_ - n) from by simp only [hA, hB, true_and]]
  generalize hC : decide ((Z : Int) - (size : Int) ≤ by_ - (n : Int)) = rc at *
  go_enter Try.func57, Try.ntmps57
  go_upto_region 1 with (fail)
  refine wp_region_gg [] [] [] (by kernel_rfl) ?_
  refine hoist [] [] (a1 := ?_) 0 rfl (by kernel_rfl) (.inl ⟨rfl, rfl⟩) rfl rfl rfl (fun x K hK => ?_) ?_
  rotate_left
  · go_big_quiet_op
    exact hK
  refine hoist [] [] (a1 := ?_) 2 rfl (by kernel_rfl) (.inl ⟨rfl, rfl⟩) rfl rfl rfl (fun x K hK => ?_) ?_
  rotate_left
  · go_big_quiet_op
    exact hK
  refine hoist [] [] (a1 := ?_) 4 rfl (by kernel_rfl) (.inl ⟨rfl, rfl⟩) rfl rfl rfl (fun x K hK => ?_) ?_
  rotate_left
  · go_big_quiet_op
    exact hK
  refine hoist [] [] (a1 := ?_) 5 rfl (by kernel_rfl) (.inl ⟨rfl, rfl⟩) rfl rfl rfl (fun x K hK => ?_) ?_
  rotate_left
  · go_big_quiet_op
    exact hK
  refine hoist [] [] (a1 := ?_) 6 rfl (by kernel_rfl) (.inl ⟨rfl, rfl⟩) rfl rfl rfl (fun x K hK => ?_) ?_
  rotate_left
  · go_big_quiet_op
    exact hK
  refine hoist [] [] (a1 := ?_) 7 rfl (by kernel_rfl) (.inl ⟨rfl, rfl⟩) rfl rfl rfl (fun x K hK => ?_) ?_
  rotate_left
  · go_big_quiet_op
    exact hK
  refine effect 1 rfl (by kernel_rfl) (by kernel_rfl) rfl (fun x1 K hK => ?_)
  go_simp
  refine Calls.mono (cL x1.now x1.bw).out ?_
  rintro e wa ⟨rfl, hb⟩
  refine hK _ _ (Still.of_below hb) ?_
  clear hK K lp l2
  have Wa := Lib.hid (BW.call x1.bw hb)
  clear hb
  have lp := fun x : LaterS [] wa => x.cell (Wa.out.cell hp.out) (by simp)
  have ln := fun x : LaterS [] wa => x.cell (Wa.out.cell hn.out) (by simp)
  have l3 := fun x : LaterS [] wa => x.cell (Wa.out.cell z3.out) (by simp)
  try simp only [Act.put, List.setIfInBounds_toArray, List.set_cons_succ, List.set_cons_zero]
  refine hoist [] [] (a1 := ?_) 3 rfl (by kernel_rfl) (.inl ⟨rfl, rfl⟩) rfl rfl rfl (fun x K hK => ?_) ?_
  rotate_left
  · go_big_quiet_op
    exact hK
  refine hoist [] [] (a1 := ?_) 8 rfl (by kernel_rfl) (.inl ⟨rfl, rfl⟩) rfl rfl rfl (fun x K hK => ?_) ?_
  rotate_left
  · go_big_quiet_op
    exact hK
  refine hoist [] [] (a1 := ?_) 9 rfl (by kernel_rfl) (.inl ⟨rfl, rfl⟩) rfl rfl rfl (fun x K hK => ?_) ?_
  rotate_left
  · go_big_quiet_op
    exact hK
  refine hoist [] [] (a1 := ?_) 10 rfl (by kernel_rfl) (.inl ⟨rfl, rfl⟩) rfl rfl rfl (fun x K hK => ?_) ?_
  rotate_left
  · go_big_quiet_op
    exact hK
  refine hoist [] [] (a1 := ?_) 11 rfl (by kernel_rfl) (.inl ⟨rfl, rfl⟩) rfl rfl rfl (fun x K hK => ?_) ?_
  rotate_left
  · go_big_quiet_op
    exact hK
  refine hoist [] [] (a1 := ?_) 12 rfl (by kernel_rfl) (.inl ⟨rfl, rfl⟩) rfl rfl rfl (fun x K hK => ?_) ?_
  rotate_left
  · go_big_quiet_op
    exact hK
  refine hoist [] [] (a1 := ?_) 13 rfl (by kernel_rfl) (.inl ⟨rfl, rfl⟩) rfl rfl rfl (fun x K hK => ?_) ?_
  rotate_left
  · go_big_quiet_op
    exact hK
  refine hoist [] [] (a1 := ?_) 14 rfl (by kernel_rfl) (.inl ⟨rfl, rfl⟩) rfl rfl rfl (fun x K hK => ?_) ?_
  rotate_left
  · go_big_quiet_op
    exact hK
  refine hoist [] [] (a1 := ?_) 15 rfl (by kernel_rfl) (.inl ⟨rfl, rfl⟩) rfl rfl rfl (fun x K hK => ?_) ?_
  rotate_left
  · go_big_quiet_op
    exact hK
  refine hoist [] [] (a1 := ?_) 16 rfl (by kernel_rfl) (.inl ⟨rfl, rfl⟩) rfl rfl rfl (fun x K hK => ?_) ?_
  rotate_left
  · go_big_quiet_op
    exact hK
  refine hoist [] [] (a1 := ?_) 17 rfl (by kernel_rfl) (.inl ⟨rfl, rfl⟩) rfl rfl rfl (fun x K hK => ?_) ?_
  rotate_left
  · go_big_quiet_op
    exact hK
  refine hoist [] [] (a1 := ?_) 18 rfl (by kernel_rfl) (.inl ⟨rfl, rfl⟩) rfl rfl rfl (fun x K hK => ?_) ?_
  rotate_left
  · go_big_quiet_op
    exact hK
  refine hoist [] [] (a1 := ?_) 20 rfl (by kernel_rfl) (.inl ⟨rfl, rfl⟩) rfl rfl rfl (fun x K hK => ?_) ?_
  rotate_left
  · go_big_quiet_op
    exact hK
  refine hoist [] [] (a1 := ?_) 22 rfl (by kernel_rfl) (.inl ⟨rfl, rfl⟩) rfl rfl rfl (fun x K hK => ?_) ?_
  rotate_left
  · go_big_quiet_op
    exact hK
  refine hoist [] [] (a1 := ?_) 23 rfl (by kernel_rfl) (.inl ⟨rfl, rfl⟩) rfl rfl rfl (fun x K hK => ?_) ?_
  rotate_left
  · go_big_quiet_op
    exact hK
  refine hoist [] [] (a1 := ?_) 24 rfl (by kernel_rfl) (.inl ⟨rfl, rfl⟩) rfl rfl rfl (fun x K hK => ?_) ?_
  rotate_left
  · go_big_quiet_op
    exact hK
  refine hoist [] [] (a1 := ?_) 25 rfl (by kernel_rfl) (.inl ⟨rfl, rfl⟩) rfl rfl rfl (fun x K hK => ?_) ?_
  rotate_left
  · go_big_quiet_op
    exact hK
  refine hoist [] [] (a1 := ?_) 26 rfl (by kernel_rfl) (.inl ⟨rfl, rfl⟩) rfl rfl rfl (fun x K hK => ?_) ?_
  rotate_left
  · go_big_quiet_op
    exact hK
  refine hoist [] [] (a1 := ?_) 27 rfl (by kernel_rfl) (.inl ⟨rfl, rfl⟩) rfl rfl rfl (fun x K hK => ?_) ?_
  rotate_left
  · go_big_quiet_op
    exact hK
  refine effect 19 rfl (by kernel_rfl) (by kernel_rfl) rfl (fun x19 K hK => ?_)
  go_simp
  refine Calls.mono (cS x19.now (Wa.out.trans x19.bw)).out ?_
  rintro e wb ⟨rfl, hb⟩
  refine hK _ _ (Still.of_below hb) ?_
  clear hK K lp ln l3
  have Wb := Lib.hid (BW.call (Wa.out.trans x19.bw) hb)
  clear hb
  have lp := fun x : LaterS [] wb => x.cell (Wb.out.cell hp.out) (by simp)
  have ln := fun x : LaterS [] wb => x.cell (Wb.out.cell hn.out) (by simp)
  have l3 := fun x : LaterS [] wb => x.cell (Wb.out.cell z3.out) (by simp)
  try simp only [Act.put, List.setIfInBounds_toArray, List.set_cons_succ, List.set_cons_zero]
  refine hoist [] [] (a1 := ?_) 21 rfl (by kernel_rfl) (.inl ⟨rfl, rfl⟩) rfl rfl rfl (fun x K hK => ?_) ?_
  rotate_left
  · go_big_quiet_op
    exact hK
  refine hoist [] [] (a1 := ?_) 28 rfl (by kernel_rfl) (.inl ⟨rfl, rfl⟩) rfl rfl rfl (fun x K hK => ?_) ?_
  rotate_left
  · go_big_quiet_op
    exact hK
  refine hoist [] [] (a1 := ?_) 29 rfl (by kernel_rfl) (.inl ⟨rfl, rfl⟩) rfl rfl rfl (fun x K hK => ?_) ?_
  rotate_left
  · go_big_quiet_op
    exact hK
  refine hoist [] [] (a1 := ?_) 30 rfl (by kernel_rfl) (.inl ⟨rfl, rfl⟩) rfl rfl rfl (fun x K hK => ?_) ?_
  rotate_left
  · go_big_quiet_op
    exact hK
  refine done (by kernel_rfl) (fun xr => ?_)
  have W2 := Lib.hid (Wb.out.trans xr.bw)
  go_wp2_with fail
  go_ret
  exact ⟨rfl, W2.out⟩
end Go.Proofs.Ytgiajnfmjpdodaa
