/- H.264 in the program: the units of a payload, whether a whole picture begins. No condition but the size. -/
import Derived.Test.YtojedpahaifjgaaEsA
import Derived.Test.YtojedpahaifjgaaNumA
import Derived.Test.YtojedpahaifjgaaArB
import Derived.Test.YtojedpahaifjgaaI1
import Derived.Test.YtojedpahaifjgaaPuE
import Derived.Laws.BitsAllLaws
import Derived.WalkMore
namespace Go.Proofs.Ytojedpahaifjgaa
open Go.RowKit
theorem slIn : SlTy Try.prog 151 3 1 8 := SlTy.mk' Try.underlying151 (by kernel_rfl) (by decide)
theorem nat_all (p : Nat → Bool) (h : (List.range 256).all p = true) (x : Nat) (hx : x < 256) : p x = true :=
 List.all_eq_true.1 h x (List.mem_range.2 hx)
theorem low31 (x : Nat) (hx : x < 256) : bits .and .u8 (x : Int) 31 = ((x % 32 : Nat) : Int) :=
 eq_of_beq (nat_all (fun x => bits .and .u8 (x : Int) 31 == ((x % 32 : Nat) : Int)) (by decide +kernel) x hx)
theorem bit32 (x : Nat) (hx : x < 256) : (bits .and .u8 (x : Int) 32 != 0) = decide (x / 32 % 2 = 1) :=
 eq_of_beq (nat_all (fun x => (bits .and .u8 (x : Int) 32 != 0) == decide (x / 32 % 2 = 1)) (by decide +kernel) x hx)
theorem bit128 (x : Nat) (hx : x < 256) : (bits .and .u8 (x : Int) 128 != 0) = decide (128 ≤ x) :=
 eq_of_beq (nat_all (fun x => (bits .and .u8 (x : Int) 128 != 0) == decide (128 ≤ x)) (by decide +kernel) x hx)
theorem bit128e (x : Nat) (hx : x < 256) : (bits .and .u8 (x : Int) 128 == 0) = decide (x < 128) :=
 eq_of_beq (nat_all (fun x => (bits .and .u8 (x : Int) 128 == 0) == decide (x < 128)) (by decide +kernel) x hx)
theorem bit64 (x : Nat) (hx : x < 256) : (bits .and .u8 (x : Int) 64 != 0) = decide (x / 64 % 2 = 1) :=
 eq_of_beq (nat_all (fun x => (bits .and .u8 (x : Int) 64 != 0) == decide (x / 64 % 2 = 1)) (by decide +kernel) x hx)
set_option maxRecDepth 100000 in
set_option maxHeartbeats 8000000 in
theorem num_short (v : Value) (len : Nat) (l : List Nat) (hno : len < 2) (w : World) (hv : SB w v len l) :
  Calls Try.prog 104 #[v, .int .i64 0, .int .i64 2] w fun e w' => e = .returned (.tuple #[.int .u64 0, .bool false]) ∧ w = w' := by
 obtain ⟨sa, cap, rfl, _, hm⟩ := hv.len
 unfold maxLen at hm
 replace hv := Lib.hid hv
 have h4 : decide ((len : Int) < 0) = false := by simp
 have h5 : decide ((len : Int) < 2) = true := by simp; omega
 go_enter Try.func104, Try.ntmps104
 go_wp2_with fail
 go_ret2
 exact ⟨rfl, rfl⟩
set_option maxRecDepth 100000 in
set_option maxHeartbeats 8000000 in
theorem ty_any (x : Nat) (hx : x < 256) (w : World) : Calls Try.prog 86 #[.int .u8 (x : Nat)] w fun e w' => e = .returned (.int .i64 ((x % 32 : Nat) : Int)) ∧ w = w' := by
 have q := low31 x hx
 have hy : x % 32 < 32 := Nat.mod_lt _ (by decide)
 generalize x % 32 = y at *
 go_enter Try.func86, Try.ntmps86
 go_wp2_with fail
 go_ret
 exact ⟨rfl, rfl⟩
def UnPost (o : Option (List Int)) (w : World) (e : Ending) (w' : World) : Prop :=
 ∃ v c, e = .returned (.tuple #[v, .int .i64 c]) ∧ BW w w' ∧ ((o = none ∧ (c != 0) = true ∧ v = .slice none 0 0) ∨ ∃ ts, o = some ts ∧ c = 0 ∧ EQ I1 3 w' w.heap.size v ts.length ts ∧ ts.length ≤ 1000000)
theorem UnPost.no {o : Option (List Int)} {w w' : World} {c : Int} (h : o = none) (hc : (c != 0) = true) (hb : BW w w') : UnPost o w (.returned (.tuple #[.slice none 0 0, .int .i64 c])) w' := ⟨_, _, rfl, hb, .inl ⟨h, hc, rfl⟩⟩
theorem UnPost.yes {o : Option (List Int)} {w w' : World} {v : Value} {ts : List Int} (h : o = some ts) (hb : BW w w') (hq : EQ I1 3 w' w.heap.size v ts.length ts) (hn : ts.length ≤ 1000000) : UnPost o w (.returned (.tuple #[v, .int .i64 0])) w' := ⟨_, _, rfl, hb, .inr ⟨ts, h, rfl, hq, hn⟩⟩
theorem one_new (w : World) (base : Nat) (hb : base ≤ w.heap.size) (t : Int) : EQ I1 3 (w.alloc (.cells #[.int .i64 t] 3)) base (.slice (some ⟨w.heap.size, 0, none⟩) 1 1) 1 [t] :=
 ⟨rfl, [.int .i64 t], Ows.new w base 3 1 #[.int .i64 t] [.int .i64 t] 1 hb rfl (by decide) rfl, [.int .i64 t], [], rfl, rfl, rfl⟩
set_option maxRecDepth 100000 in
set_option maxHeartbeats 8000000 in
theorem units_any (sa : Option Addr) (n cp : Nat) (l : List Nat) (w : World) (h : SB w (.slice sa n cp) n l) (hn : n ≤ 100000) :
  Calls Try.prog 98 #[.slice sa n cp] w (UnPost (unitsW l) w) := by
 have hH := Lib.hid h
 clear h
 obtain ⟨R, hR⟩ : ∃ R, unitsW l = R := ⟨_, rfl⟩
 rw [hR]
 have hR0 : Hid ((unitsW (l.drop 0)).map (([] : List Int) ++ ·) = R) := by rw [Hid, List.drop_zero, hR]; cases R <;> simp
 clear hR
 go_enter Try.func98, Try.ntmps98
 go_wp2_with fail
 go_step3
 go_wp2_with fail
 go_step3
 go_wp2_with fail
 go_loopg [0, 4] n (fun m' b o wx => ∃ (k : Nat) (sb so : Option Addr) (cb co m : Nat) (ts : List Int), m' = n - k ∧ k ≤ n ∧ b = .slice sb (n - k) cb ∧ o = .slice so m co ∧ co ≤ 9223372036854775807 ∧ m ≤ k ∧ Hid (SB w (.slice sb (n - k) cb) (n - k) (l.drop k)) ∧ Hid (EQ I1 3 wx w.heap.size (.slice so m co) m ts) ∧ Hid ((unitsW (l.drop k)).map (ts ++ ·) = R) ∧ Hid (BW w wx))
 case atStart => exact ⟨0, sa, none, cp, 0, 0, [], by omega, by omega, rfl, rfl, by omega, by omega, by simpa using hH, EQ.nil _ _ _ _, hR0, BW.refl _⟩
 case round =>
  clear hR0
  obtain ⟨k, sb, so, cb, co, m, ts, rfl, hk, rfl, rfl, hco, hm, S, Q, hR, B⟩ := hrel
  generalize hL : l.drop k = L at *
  obtain ⟨nk, hnk⟩ : ∃ nk, nk = n - k := ⟨_, rfl⟩
  rw [← hnk] at S ⊢
  have hlen := S.out.1
  have hby := S.out.2.1
  obtain ⟨_, _, he, hcb, hcm⟩ := S.out.len
  cases he
  unfold maxLen at hcm
  by_cases h2 : nk < 2
  ·have c := Lib.hid (num_short _ nk L h2 wr (S.out.bw B.out))
   have hU := unitsW_none (l := L) (.inl (by omega))
   rw [hU] at hR
   replace hlen := Lib.hid hlen
   replace hby := Lib.hid hby
   replace hnk := Lib.hid hnk
   replace hU := Lib.hid hU
   replace hL := Lib.hid hL
   go_wp2_with fail
   refine Calls.mono c.out ?_
   rintro e w1 ⟨rfl, rfl⟩
   dsimp only
   go_wp2_with fail
   go_ret2
   exact UnPost.no (by rw [← hR.out]; rfl) (by decide) B.out
  have hN : numB ((L.drop 0).take 2) = 256 * L.getD 0 0 + L.getD 1 0 := by
   match L, hlen with
   | a :: b :: r, _ => simp [numB]; omega
   | [a], h => simp at h; omega
   | [], h => simp at h; omega
  have c := num_ok _ nk L 0 2 0 2 (by omega) (by omega) (by omega) rfl rfl wr (S.out.bw B.out)
  rw [hN] at c
  have b0 := ByL.get hby 0
  have b1 := ByL.get hby 1
  have b2 := ByL.get hby 2
  obtain ⟨N, hNe⟩ : ∃ N, 256 * L.getD 0 0 + L.getD 1 0 = N := ⟨_, rfl⟩
  rw [hNe] at c
  have hNb : N < 65536 := by omega
  by_cases h0 : N = 0
  ·have hU := unitsW_none (l := L) (.inr (.inl (by omega)))
   rw [hU] at hR
   subst h0
   replace hlen := Lib.hid hlen
   replace hby := Lib.hid hby
   replace hnk := Lib.hid hnk
   replace hU := Lib.hid hU
   replace c := Lib.hid c
   replace hN := Lib.hid hN
   replace hNe := Lib.hid hNe
   replace hL := Lib.hid hL
   go_wp2_with fail
   refine Calls.mono c.out ?_
   rintro e w1 ⟨rfl, rfl⟩
   dsimp only
   go_wp2_with fail
   go_ret2
   exact UnPost.no (by rw [← hR.out]; rfl) (by decide) B.out
  have d0 : ((N : Int) == 0) = false := by simp; omega
  by_cases h3 : nk < 2 + N
  ·have hU := unitsW_none (l := L) (.inr (.inr (.inl (by omega))))
   rw [hU] at hR
   have d1 : decide ((nk : Int) - 2 < (N : Int)) = true := by simp; omega
   replace hlen := Lib.hid hlen
   replace hby := Lib.hid hby
   replace hnk := Lib.hid hnk
   replace hU := Lib.hid hU
   replace c := Lib.hid c
   replace hN := Lib.hid hN
   replace hNe := Lib.hid hNe
   replace hL := Lib.hid hL
   go_wp2_with fail
   refine Calls.mono c.out ?_
   rintro e w1 ⟨rfl, rfl⟩
   dsimp only
   go_wp2_with fail
   go_ret2
   exact UnPost.no (by rw [← hR.out]; rfl) (by decide) B.out
  have d1 : decide ((nk : Int) - 2 < (N : Int)) = false := by simp; omega
  obtain ⟨g, o, cap, hsl, -, -, -, hcell⟩ := (S.out.bw B.out).form (by omega)
  simp only [Value.slice.injEq] at hsl
  obtain ⟨hsb, -, -⟩ := hsl
  have z2 := hcell 2 (by omega)
  have cT := Lib.hid (ty_any (L.getD 2 0) b2 wr)
  obtain ⟨t, ht⟩ : ∃ t, L.getD 2 0 % 32 = t := ⟨_, rfl⟩
  rw [ht] at cT
  have r1 := fun w => run_cut_l (P := Try.prog) Try.underlying34 info_u8 sb nk cb (2 + N) (2 + (N : Int)) (by push_cast; rfl) .u64 (by omega) w
  by_cases ht0 : t = 0
  ·have hU := unitsW_none (l := L) (.inr (.inr (.inr (by omega))))
   rw [hU] at hR
   subst ht0 hsb
   generalize L.getD 2 0 = y at *
   clear hcell r1
   replace hlen := Lib.hid hlen
   replace hby := Lib.hid hby
   replace hnk := Lib.hid hnk
   replace hU := Lib.hid hU
   replace c := Lib.hid c
   replace hN := Lib.hid hN
   replace hNe := Lib.hid hNe
   replace hL := Lib.hid hL
   replace ht := Lib.hid ht
   go_wp2_with fail
   refine Calls.mono c.out ?_
   rintro e w1 ⟨rfl, rfl⟩
   dsimp only
   go_wp2_with fail
   refine Calls.mono cT.out ?_
   rintro e w1 ⟨rfl, rfl⟩
   dsimp only
   go_wp2_with fail
   go_ret2
   exact UnPost.no (by rw [← hR.out]; rfl) (by decide) B.out
  have d2 : ((t : Int) == 0) = false := by simp; omega
  have hcut := (S.out.cut (2 + N) nk cb (by omega) (Nat.le_refl _) hcb (Nat.le_refl _))
  have htk : (L.drop (2 + N)).take (nk - (2 + N)) = l.drop (k + (2 + N)) := by rw [List.take_of_length_le (by rw [List.length_drop]; omega), ← hL, List.drop_drop]
  rw [htk] at hcut
  have hkn : nk - (2 + N) = n - (k + (2 + N)) := by omega
  have hne : ¬ (L.length < 2 ∨ 256 * L.getD 0 0 + L.getD 1 0 = 0 ∨ L.length < 2 + (256 * L.getD 0 0 + L.getD 1 0) ∨ L.getD 2 0 % 32 = 0) := by omega
  have hU1 : L.length = 2 + N → unitsW L = some [((t : Nat) : Int)] := fun e => by rw [unitsW_last hne (by omega), ht]
  have hU2 : L.length ≠ 2 + N → unitsW L = (unitsW (l.drop (k + (2 + N)))).map fun r => ((t : Nat) : Int) :: r := fun e => by rw [unitsW_more hne (by omega), ht, hNe, ← hL, List.drop_drop]
  have hk2 : k + (2 + N) ≤ n := by omega
  subst hsb
  have hmk : m + 1 ≤ k + (2 + N) := by omega
  have hms : nk - (2 + N) < nk := by omega
  have htb : t < 32 := by omega
  generalize L.getD 2 0 = y at *
  obtain ⟨sb', hsb'⟩ : ∃ x, x = cutA (some ⟨g, o, none⟩) (2 + N) cb 1 := ⟨_, rfl⟩
  obtain ⟨cb', hcb'⟩ : ∃ x, x = cb - (2 + N) := ⟨_, rfl⟩
  obtain ⟨nk', hnk'⟩ : ∃ x, x = nk - (2 + N) := ⟨_, rfl⟩
  rw [← hsb', ← hcb', ← hnk'] at r1 hcut
  rw [← hnk'] at hkn hms
  clear hcell hne htk
  have hmx : co ≤ 9223372036854775807 := hco
  replace r1 := Lib.hid r1
  replace hlen := Lib.hid hlen
  replace hby := Lib.hid hby
  replace hnk := Lib.hid hnk
  replace c := Lib.hid c
  replace hN := Lib.hid hN
  replace hNe := Lib.hid hNe
  replace hL := Lib.hid hL
  replace ht := Lib.hid ht
  replace hcut := Lib.hid hcut
  replace hkn := Lib.hid hkn
  replace hU1 := Lib.hid hU1
  replace hU2 := Lib.hid hU2
  replace hsb' := Lib.hid hsb'
  replace hcb' := Lib.hid hcb'
  replace hnk' := Lib.hid hnk'
  go_wp2_with fail
  refine Calls.mono c.out ?_
  rintro e w1 ⟨rfl, rfl⟩
  dsimp only
  go_wp2_with fail
  refine Calls.mono cT.out ?_
  rintro e w1 ⟨rfl, rfl⟩
  dsimp only
  clear z2 cT c
  have BCq : BW wr (wr.alloc (.cells #[.int .i64 (t : Int)] 3)) := (BW.refl _).alloc
  have Lq := Lib.hid (Sls.new1 (E := I1) wr 3 [.int .i64 (t : Int)] rfl)
  replace Q := Lib.hid (Q.out.bw BCq)
  replace B := Lib.hid (B.out.trans BCq)
  have hzq := Lib.hid (B.out.size)
  replace BCq := Lib.hid BCq
  go_upto_region 13 with (at_builtin; go_must (refine wpList_apEQ slIn rfl _ _ rfl w.heap.size (.slice so m co) m ts rfl Q.out _ rfl 1 [(t : Int)] [.int .i64 (t : Int)] Lq.out (EL.single rfl) rfl (by omega) hzq.out (fun _ _ => trivial) ?_; intro s3 c3 w3 hcq hmq Qn Tn hbn Gn; unfold maxLen at hmq; replace Qn := Lib.hid Qn; replace Tn := Lib.hid Tn; replace Gn := Lib.hid Gn; clear hbn))
  replace B := Lib.hid (BW.stP B.out Tn.out (fun j hj => Q.out.ge' j (by simpa using hj)))
  clear Q Tn Gn Lq hzq BCq
  have Q := Qn
  clear Qn
  have r1' := r1.out
  clear r1
  by_cases hlast : nk' = 0
  ·subst hlast
   have hU := hU1.out (by have := hlen.out; have := hnk'.out; omega)
   replace hU := Lib.hid hU
   go_wp2_with fail
   go_ret2
   exact UnPost.yes (ts := ts ++ [(t : Int)]) (by rw [← hR.out, hU.out]; rfl) B.out (by have := Q.out.full; exact this) (by have := Q.out.1; omega)
  ·have d5 : ((nk' : Int) == 0) = false := by simp; omega
   have hU := hU2.out (by have := hlen.out; have := hnk'.out; omega)
   replace hU := Lib.hid hU
   go_wp2_with fail
   go_roundg nk'
   case measure => have := hnk.out; omega
   case rel => exact ⟨k + (2 + N), sb', s3, cb', c3, m + 1, ts ++ [(t : Int)], hkn.out, hk2, by rw [hkn.out], rfl, by omega, hmk, by rw [← hkn.out]; exact hcut, Q, Lib.hid (by rw [← hR.out, hU.out, map_app]), B⟩
theorem eq_decide {b : Bool} {p : Prop} [Decidable p] (h : b = decide p) (hp : p) : b = true := by rw [h]; exact decide_eq_true hp
theorem ne_decide {b : Bool} {p : Prop} [Decidable p] (h : b = decide p) (hp : ¬ p) : b = false := by rw [h]; exact decide_eq_false hp
set_option maxRecDepth 100000 in
set_option maxHeartbeats 8000000 in
theorem part_any (sa : Option Addr) (n cp : Nat) (l : List Nat) (w : World) (h : SB w (.slice sa n cp) n l) (hn : n ≤ 100000) :
  Calls Try.prog 99 #[.slice sa n cp] w (UnPost (partN l) w) := by
 have hlen := h.1
 have b0 := ByL.get h.2.1 0
 obtain ⟨_, _, he, hcp, hcm⟩ := h.len
 cases he
 unfold maxLen at hcm
 have hH := Lib.hid h
 clear h
 by_cases h2 : n < 2
 ·have hU : partN l = none := by unfold partN; rw [if_pos (.inl (by omega))]
  rw [hU]
  replace hU := Lib.hid hU
  replace hlen := Lib.hid hlen
  go_enter Try.func99, Try.ntmps99
  go_wp2_with fail
  go_ret2
  exact UnPost.no rfl (by decide) (BW.refl _)
 obtain ⟨g, o, cap, hsl, -, -, -, hcell⟩ := hH.out.form (by omega)
 simp only [Value.slice.injEq] at hsl
 obtain ⟨rfl, -, -⟩ := hsl
 have z0 := hcell 0 (by omega)
 rw [Nat.add_zero] at z0
 have cT := Lib.hid (ty_any (l.getD 0 0) b0 w)
 have e1 := bit32 _ b0
 have e2 := bit128 _ b0
 have e3 := bit64 _ b0
 have hP : ∀ p : Prop, (l.length < 2 ∨ l.getD 0 0 / 32 % 2 = 1 ∨ 192 ≤ l.getD 0 0 ∨ l.getD 0 0 % 32 < 1 ∨ 23 < l.getD 0 0 % 32) → partN l = none := fun _ h => by unfold partN; rw [if_pos h]
 by_cases hb : l.getD 0 0 / 32 % 2 = 1 ∨ 192 ≤ l.getD 0 0 ∨ l.getD 0 0 % 32 < 1 ∨ 23 < l.getD 0 0 % 32
 ·have hU : partN l = none := by unfold partN; rw [if_pos (.inr hb)]
  rw [hU]
  clear hP hcell
  generalize l.getD 0 0 = y at *
  replace hU := Lib.hid hU
  replace hlen := Lib.hid hlen
  by_cases k1 : y / 32 % 2 = 1
  ·have d1 := eq_decide e1 k1
   clear e1 e2 e3 hb
   replace k1 := Lib.hid k1
   go_enter Try.func99, Try.ntmps99
   go_wp2_with fail
   refine Calls.mono cT.out ?_
   rintro e w1 ⟨rfl, rfl⟩
   dsimp only
   go_wp2_with fail
   go_ret2
   exact UnPost.no rfl (by decide) (BW.refl _)
  have d1 := ne_decide e1 k1
  by_cases k2 : 192 ≤ y
  ·have d2 := eq_decide e2 (show 128 ≤ y by omega)
   have d3 := eq_decide e3 (show y / 64 % 2 = 1 by omega)
   clear e1 e2 e3 hb
   replace k1 := Lib.hid k1
   replace k2 := Lib.hid k2
   go_enter Try.func99, Try.ntmps99
   go_wp2_with fail
   refine Calls.mono cT.out ?_
   rintro e w1 ⟨rfl, rfl⟩
   dsimp only
   go_wp2_with fail
   go_ret2
   exact UnPost.no rfl (by decide) (BW.refl _)
  have d23 : (bits .and .u8 (y : Int) 128 != 0) = false ∨ ((bits .and .u8 (y : Int) 128 != 0) = true ∧ (bits .and .u8 (y : Int) 64 != 0) = false) := by
   by_cases k3 : 128 ≤ y
   ·exact .inr ⟨eq_decide e2 k3, ne_decide e3 (by omega)⟩
   ·exact .inl (ne_decide e2 k3)
  clear e1 e2 e3
  by_cases k4 : y % 32 < 1
  ·have d4 : decide (((y % 32 : Nat) : Int) < 1) = true := by simp; omega
   generalize y % 32 = t at *
   clear hb
   replace k1 := Lib.hid k1
   replace k2 := Lib.hid k2
   replace k4 := Lib.hid k4
   rcases d23 with d2 | ⟨d2, d3⟩
   all_goals
    go_enter Try.func99, Try.ntmps99
    go_wp2_with fail
    refine Calls.mono cT.out ?_
    rintro e w1 ⟨rfl, rfl⟩
    dsimp only
    go_wp2_with fail
    go_ret2
    exact UnPost.no rfl (by decide) (BW.refl _)
  have d4 : decide (((y % 32 : Nat) : Int) < 1) = false := by simp; omega
  have d5 : decide ((23 : Int) < ((y % 32 : Nat) : Int)) = true := by simp; omega
  generalize y % 32 = t at *
  clear hb
  replace k1 := Lib.hid k1
  replace k2 := Lib.hid k2
  replace k4 := Lib.hid k4
  rcases d23 with d2 | ⟨d2, d3⟩
  all_goals
   go_enter Try.func99, Try.ntmps99
   go_wp2_with fail
   refine Calls.mono cT.out ?_
   rintro e w1 ⟨rfl, rfl⟩
   dsimp only
   go_wp2_with fail
   go_ret2
   exact UnPost.no rfl (by decide) (BW.refl _)
 ·have hU : partN l = some [((l.getD 0 0 % 32 : Nat) : Int)] := by unfold partN; rw [if_neg (by omega)]
  rw [hU]
  clear hP hcell
  generalize l.getD 0 0 = y at *
  have d1 := ne_decide e1 (show ¬ y / 32 % 2 = 1 by omega)
  have d4 : decide (((y % 32 : Nat) : Int) < 1) = false := by simp; omega
  have d5 : decide ((23 : Int) < ((y % 32 : Nat) : Int)) = false := by simp; omega
  have d23 : (bits .and .u8 (y : Int) 128 != 0) = false ∨ ((bits .and .u8 (y : Int) 128 != 0) = true ∧ (bits .and .u8 (y : Int) 64 != 0) = false) := by
   by_cases k3 : 128 ≤ y
   ·exact .inr ⟨eq_decide e2 k3, ne_decide e3 (by omega)⟩
   ·exact .inl (ne_decide e2 k3)
  clear e1 e2 e3 hb
  generalize y % 32 = t at *
  have q1 := Lib.hid (one_new w w.heap.size (Nat.le_refl _) (t : Int))
  replace hU := Lib.hid hU
  replace hlen := Lib.hid hlen
  rcases d23 with d2 | ⟨d2, d3⟩
  all_goals
   go_enter Try.func99, Try.ntmps99
   go_wp2_with fail
   refine Calls.mono cT.out ?_
   rintro e w1 ⟨rfl, rfl⟩
   dsimp only
   go_wp2_with fail
   go_ret2
   exact UnPost.yes rfl (BW.refl _).alloc q1.out (by simp)
end Go.Proofs.Ytojedpahaifjgaa
