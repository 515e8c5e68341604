/- The law RingLast. No condition. -/
import Derived.Test.YtgiajnfmjpdodaaRiF
namespace Go.Proofs.Ytgiajnfmjpdodaa
open Go.RowKit

/-- What a ring of so many packets has behind i puts: the last ones. -/
def winL (most z i : Nat) : PL := (List.range (min i most)).map fun j => (((i - min i most + j : Nat) : Int), zeros z)
theorem winL_len (most z i : Nat) : (winL most z i).length = min i most := by simp [winL]
theorem winL_cl {most z i j : Nat} (h : j < min i most) : cl (winL most z i) j = ((i - min i most + j : Nat) : Int) := by
  rw [cl_get (by rw [winL_len]; exact h)]
  simp [winL]
theorem winL_srt (most z i : Nat) : Srt (winL most z i) := fun a b h1 h2 => by
  rw [winL_len] at h2
  rw [winL_cl (by omega), winL_cl h2]; omega
theorem lensL_same (z : Nat) : ∀ (L : PL), (∀ p ∈ L, p.2.length = z) → lensL L = L.length * z
  | [], _ => by simp [lensL]
  | p :: L, h => by
    show p.2.length + lensL L = _
    rw [lensL_same z L (fun q hq => h q (List.mem_cons_of_mem _ hq)), h p List.mem_cons_self, List.length_cons, Nat.succ_mul]; omega
theorem winL_z (most z i : Nat) : ∀ p ∈ winL most z i, p.2.length = z := fun p hp => by
  obtain ⟨j, _, rfl⟩ := List.mem_map.1 hp
  exact zeros_len z
theorem winL_lens (most z i : Nat) : lensL (winL most z i) = min i most * z := by rw [lensL_same z _ (winL_z most z i), winL_len]
theorem trimN_keep {pk by_ : Int} {L : PL} (h1 : (L.length : Int) ≤ pk) (h2 : (lensL L : Int) ≤ by_) : trimN pk by_ L = L := by
  cases L with
  | nil => rfl
  | cons p L =>
    unfold trimN
    rw [if_neg (by rw [List.length_cons] at h1; omega)]
theorem winL_low (most z i : Nat) : lowN (winL most z i) (i : Int) = min i most := by
  refine lowN_eq (by rw [winL_len]; exact Nat.le_refl _) (fun j hj => ?_) (fun j h1 h2 => ?_)
  · rw [winL_cl hj]; omega
  · rw [winL_len] at h2; omega
theorem winL_not (most z i : Nat) : isAt (winL most z i) (i : Int) = false := by
  unfold isAt
  rw [winL_low, winL_len, decide_eq_false (fun h => by omega)]
theorem winL_succ (most z i : Nat) (hm : 1 ≤ most) (hm9 : most ≤ 9) (hz : z ≤ 255) : putN (most : Int) 1000000 (winL most z i) (i : Int) (zeros z) = (0, winL most z (i + 1)) := by
  have hl := winL_len most z i
  have hlow := winL_low most z i
  unfold putN
  rw [if_neg (by omega), zeros_len, if_neg (by omega), winL_not, hlow, hl, if_neg (by rintro (h | h); cases h; omega)]
  have hins : insN (winL most z i) (i : Int) (zeros z) = winL most z i ++ [((i : Int), zeros z)] := by
    unfold insN
    rw [hlow, List.take_of_length_le (by omega), List.drop_of_length_le (by omega), List.append_nil]
  rw [hins]
  congr 1
  have hmul : ∀ a : Nat, a ≤ 10 → a * z ≤ 2550 := fun a ha => by
    have := Nat.mul_le_mul ha hz
    omega
  by_cases hfull : i < most
  · have e1 : winL most z i ++ [((i : Int), zeros z)] = winL most z (i + 1) := by
      unfold winL
      rw [show min (i + 1) most = i + 1 by omega, show min i most = i by omega, List.range_succ, List.map_append, List.map_singleton]
      simp
    rw [e1]
    refine trimN_keep (by rw [winL_len]; omega) ?_
    rw [winL_lens]
    have := hmul (min (i + 1) most) (by omega)
    omega
  · have e1 : winL most z i ++ [((i : Int), zeros z)] = (((i - most : Nat) : Int), zeros z) :: winL most z (i + 1) := by
      unfold winL
      rw [show min (i + 1) most = most by omega, show min i most = most by omega]
      have e2 : ∀ m : Nat, (List.range m).map (fun j => (((i - m + j : Nat) : Int), zeros z)) ++ [(((i - m + m : Nat) : Int), zeros z)] = (List.range (m + 1)).map (fun j => (((i - m + j : Nat) : Int), zeros z)) := fun m => by
        rw [List.range_succ, List.map_append, List.map_singleton]
      have e3 := e2 most
      rw [show i - most + most = i by omega] at e3
      rw [e3, List.range_succ_eq_map, List.map_cons, List.map_map]
      congr 1
      refine List.map_congr_left fun j _ => ?_
      show (((i - most + (j + 1) : Nat) : Int), zeros z) = _
      congr 2; omega
    rw [e1]
    have hl2 := winL_len most z (i + 1)
    unfold trimN
    rw [if_pos (by left; rw [hl2]; omega)]
    refine trimN_keep (by rw [winL_len]; omega) ?_
    rw [winL_lens]
    have := hmul (min (i + 1) most) (by omega)
    omega
theorem winL_at (most z n i : Nat) (hi : i < n) (hm : 1 ≤ most) : isAt (winL most z n) (i : Int) = decide ((n : Int) - most ≤ i) := by
  by_cases h : n - min n most ≤ i
  · have hlow : lowN (winL most z n) (i : Int) = i - (n - min n most) := by
      refine lowN_eq (by rw [winL_len]; omega) (fun j hj => ?_) (fun j h1 h2 => ?_)
      · rw [winL_cl (by omega)]; omega
      · rw [winL_len] at h2
        rw [winL_cl h2]; omega
    unfold isAt
    rw [hlow, winL_len, decide_eq_true ⟨by omega, by rw [winL_cl (by omega)]; omega⟩, decide_eq_true (by omega)]
  · have hlow : lowN (winL most z n) (i : Int) = 0 := by
      refine lowN_eq (by omega) (fun j hj => by omega) (fun j h1 h2 => ?_)
      rw [winL_len] at h2
      rw [winL_cl h2]; omega
    unfold isAt
    rw [hlow, winL_len, decide_eq_false (fun h2 => by rw [winL_cl (by omega)] at h2; omega), decide_eq_false (by omega)]
set_option maxRecDepth 100000 in
set_option maxHeartbeats 8000000 in
theorem law_rlast (p z n : Int) (w : World) (hp : (Lit.int .u8 p).wf = true) (hz : (Lit.int .u8 z).wf = true) (hn : (Lit.int .u8 n).wf = true) :
    Calls Try.prog 12 #[.int .u8 p, .int .u8 z, .int .u8 n] w fun e w' => e = .returned (.bool true) ∧ Below w.heap.size w w' := by
  obtain ⟨p0, p1⟩ := bounds_u8 hp
  obtain ⟨z0, z1⟩ := bounds_u8 hz
  obtain ⟨n0, n1⟩ := bounds_u8 hn
  clear hp hz hn
  obtain ⟨zz, rfl⟩ : ∃ zz : Nat, z = (zz : Int) := ⟨z.toNat, by omega⟩
  obtain ⟨most, hmost⟩ : ∃ m : Nat, p % 9 + 1 = (m : Int) := ⟨(p % 9 + 1).toNat, by omega⟩
  obtain ⟨many, hmany⟩ : ∃ m : Nat, n % 40 = (m : Int) := ⟨(n % 40).toNat, by omega⟩
  have hm1 : 1 ≤ most := by omega
  have hm9 : most ≤ 9 := by omega
  have hmn : many ≤ 40 := by omega
  have hzz : zz ≤ 255 := by omega
  have ha := Lib.hid (ring_alive w)
  have mk := make_u8 zz (by omega)
  go_enter Try.func12, Try.ntmps12
  go_wp2_with fail
  refine Calls.mono ha.out ?_
  rintro e w1 ⟨rfl, B1⟩
  replace B1 := Lib.hid B1
  clear ha
  dsimp only
  have cN := Lib.hid (ring_new (most : Int) 1000000 w1 (by omega) (by decide))
  go_wp2_with fail
  refine Calls.mono cN.out ?_
  rintro e w2 ⟨rfl, RV, hb⟩
  have H2 := Lib.hid (RV w.heap.size)
  have B2 := Lib.hid (B1.out.trans hb)
  have hg := B1.out.size
  generalize w1.heap.size = g at *
  clear cN RV hb B1
  dsimp only
  replace hmost := Lib.hid hmost
  replace hmany := Lib.hid hmany
  go_upto_region 8 with (fail)
  go_loopg [10] many (fun m' i wx => ∃ (k : Nat) (v : Value), m' = many - k ∧ k ≤ many ∧ i = .int .i64 (k : Nat) ∧ Hid (RingV wx w.heap.size g (most : Int) 1000000 v (winL most zz k)) ∧ Hid (BW w wx))
  case atStart => exact ⟨0, .slice none 0 0, by omega, by omega, rfl, by rw [show winL most zz 0 = [] from by simp [winL]]; exact H2, B2⟩
  case round =>
    clear H2 B2
    obtain ⟨k, v, rfl, hk, rfl, H, B⟩ := hrel
    by_cases hkn : k < many
    · have d1 : decide ((k : Int) < (many : Int)) = true := by simp; omega
      have BA : BW wr (wr.alloc (.cells (ivA .u8 (zeros zz)) 5)) := (BW.refl _).alloc
      have O1 := Lib.hid (OB.new wr w.heap.size (zeros zz) zz B.out.size (zeros_len zz) (by unfold maxLen; omega) (fun x hx => by simp [zeros] at hx; omega))
      have H3 := Lib.hid (H.out.bw BA)
      have B3 := Lib.hid (B.out.trans BA)
      have hmul : min k most * zz ≤ 9 * 255 := Nat.mul_le_mul (by omega) hzz
      have c1 := Lib.hid (put_law w g (most : Int) 1000000 v _ (k : Int) _ (zeros zz) _ H3.out hg B3.out (winL_srt most zz k) (by rw [winL_len]; omega) (by rw [winL_lens]; omega) (by rw [zeros_len]; exact O1.out.sb) (by rw [zeros_len]; omega) (by omega) (by omega) (by decide) (by decide))
      rw [winL_succ most zz k hm1 hm9 hzz] at c1
      clear BA O1 H3 B3
      go_wp2_with fail
      refine Calls.mono c1.out ?_
      rintro e w3 ⟨rfl, ⟨v3, H3, -⟩, B3, -⟩
      replace H3 := Lib.hid H3
      replace B3 := Lib.hid B3
      clear c1 d1
      dsimp only
      go_wp2_with fail
      go_roundg (many - (k + 1))
      case measure => omega
      case rel => exact ⟨k + 1, v3, rfl, by omega, by push_cast; rfl, H3, B3⟩
    · obtain rfl : k = many := by omega
      have d1 : decide ((k : Int) < (k : Int)) = false := by simp
      clear mk
      obtain ⟨wh, rfl⟩ : ∃ y, y = wr := ⟨_, rfl⟩
      go_upto_region 13 with (fail)
      go_loopg [11] k (fun m' i wx => ∃ (q : Nat), m' = k - q ∧ q ≤ k ∧ i = .int .i64 (q : Nat) ∧ Hid (BW wh wx))
      case atStart => exact ⟨0, by omega, by omega, rfl, BW.refl _⟩
      case round =>
        obtain ⟨q, rfl, hq, rfl, BQ⟩ := hrel
        by_cases hqk : q < k
        · have d2 : decide ((q : Int) < (k : Int)) = true := by simp; omega
          have hmul : min k most * zz ≤ 9 * 255 := Nat.mul_le_mul (by omega) hzz
          have c2 := Lib.hid (get_any w.heap.size g (most : Int) 1000000 v _ (q : Int) wr (H.out.bw BQ.out) (winL_srt most zz k) (by rw [winL_len]; omega) (by rw [winL_lens]; omega))
          rw [winL_at most zz k q hqk hm1] at c2
          have q1 : IntKind.i64.wrap ((k : Int) - (most : Int)) = (k : Int) - (most : Int) := IntWalk.i64_in _ (by omega)
          clear hmul
          go_wp2_with fail
          refine Calls.mono c2.out ?_
          rintro e w3 ⟨u3, rfl, -, hb⟩
          have B3 := Lib.hid (BQ.out.trans hb)
          clear c2 hb d2
          generalize hdd : decide ((k : Int) - (most : Int) ≤ (q : Int)) = dd at *
          have d3 : (dd != dd) = false := by simp
          dsimp only
          go_wp2_with fail
          clear hdd q1 d3
          go_roundg (k - (q + 1))
          case measure => omega
          case rel => exact ⟨q + 1, rfl, by omega, by push_cast; rfl, B3⟩
        · obtain rfl : q = k := by omega
          have d2 : decide ((q : Int) < (q : Int)) = false := by simp
          go_wp2_with fail
          go_ret
          exact ⟨rfl, B.out.trans BQ.out⟩
end Go.Proofs.Ytgiajnfmjpdodaa
