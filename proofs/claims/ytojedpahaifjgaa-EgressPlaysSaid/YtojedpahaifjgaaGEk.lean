/- H.264: the units of a payload, and whether a whole picture begins; said plainly. Nothing of the program; no condition. H.264 in the program: the units of a payload, whether a whole picture begins. No condition but the size. H.264 in the program: Units, Key. No condition but the size. -/
import Derived.Test.YtojedpahaifjgaaGKi
import Derived.Test.YtojedpahaifjgaaNumA
import Derived.Test.YtojedpahaifjgaaArB
import Derived.Test.YtojedpahaifjgaaGEe
import Derived.Laws.BitsAllLaws
import Derived.WalkMore
namespace Go.Proofs.Ytojedpahaifjgaa
def unitsW (l : List Nat) : Option (List Int) :=
 if h : l.length < 2 ∨ 256 * l.getD 0 0 + l.getD 1 0 = 0 ∨ l.length < 2 + (256 * l.getD 0 0 + l.getD 1 0) ∨ l.getD 2 0 % 32 = 0 then none
 else if l.length = 2 + (256 * l.getD 0 0 + l.getD 1 0) then some [((l.getD 2 0 % 32 : Nat) : Int)]
 else (unitsW (l.drop (2 + (256 * l.getD 0 0 + l.getD 1 0)))).map fun r => ((l.getD 2 0 % 32 : Nat) : Int) :: r
termination_by l.length
decreasing_by rw [List.length_drop]; omega
theorem unitsW_none {l : List Nat} (h : l.length < 2 ∨ 256 * l.getD 0 0 + l.getD 1 0 = 0 ∨ l.length < 2 + (256 * l.getD 0 0 + l.getD 1 0) ∨ l.getD 2 0 % 32 = 0) : unitsW l = none := by
 rw [unitsW, dif_pos h]
theorem unitsW_last {l : List Nat} (h : ¬ (l.length < 2 ∨ 256 * l.getD 0 0 + l.getD 1 0 = 0 ∨ l.length < 2 + (256 * l.getD 0 0 + l.getD 1 0) ∨ l.getD 2 0 % 32 = 0)) (h2 : l.length = 2 + (256 * l.getD 0 0 + l.getD 1 0)) : unitsW l = some [((l.getD 2 0 % 32 : Nat) : Int)] := by
 rw [unitsW, dif_neg h, if_pos h2]
theorem unitsW_more {l : List Nat} (h : ¬ (l.length < 2 ∨ 256 * l.getD 0 0 + l.getD 1 0 = 0 ∨ l.length < 2 + (256 * l.getD 0 0 + l.getD 1 0) ∨ l.getD 2 0 % 32 = 0)) (h2 : l.length ≠ 2 + (256 * l.getD 0 0 + l.getD 1 0)) : unitsW l = (unitsW (l.drop (2 + (256 * l.getD 0 0 + l.getD 1 0)))).map fun r => ((l.getD 2 0 % 32 : Nat) : Int) :: r := by
 rw [unitsW, dif_neg h, if_neg h2]
theorem map_app (o : Option (List Int)) (a : List Int) (t : Int) : (o.map fun r => t :: r).map (a ++ ·) = o.map ((a ++ [t]) ++ ·) := by
 cases o <;> simp
def partN (l : List Nat) : Option (List Int) :=
 if l.length < 2 ∨ l.getD 0 0 / 32 % 2 = 1 ∨ 192 ≤ l.getD 0 0 ∨ l.getD 0 0 % 32 < 1 ∨ 23 < l.getD 0 0 % 32 then none else some [((l.getD 0 0 % 32 : Nat) : Int)]
def unitsN (l : List Nat) : Option (List Int) :=
 if l.length = 0 then none
 else if l.getD 0 0 % 32 = 24 then unitsW (l.drop 1)
 else if l.getD 0 0 % 32 = 28 then partN (l.drop 1)
 else if 1 ≤ l.getD 0 0 % 32 ∧ l.getD 0 0 % 32 ≤ 23 then some [((l.getD 0 0 % 32 : Nat) : Int)] else none
def isK (t : Int) : Bool := t == 5 || t == 7 || t == 8
def keyA (l : List Nat) : Bool :=
 match unitsN l with
 | none => false
 | some ts => if l.getD 0 0 % 32 = 28 ∧ l.getD 1 0 < 128 then false else ts.any isK
theorem keyA_none {l : List Nat} (h : unitsN l = none) : keyA l = false := by unfold keyA; rw [h]
theorem keyA_no {l : List Nat} (h : l.getD 0 0 % 32 = 28 ∧ l.getD 1 0 < 128) : keyA l = false := by
 unfold keyA
 split
 ·rfl
 ·rw [if_pos h]
theorem keyA_some {l : List Nat} {ts : List Int} (h : unitsN l = some ts) (h2 : ¬ (l.getD 0 0 % 32 = 28 ∧ l.getD 1 0 < 128)) : keyA l = ts.any isK := by
 unfold keyA
 rw [h]
 exact if_neg h2
theorem unitsN_pos {l : List Nat} {ts : List Int} (h : unitsN l = some ts) : 0 < l.length := by
 unfold unitsN at h
 split at h
 ·cases h
 ·omega
theorem unitsN_two {l : List Nat} {ts : List Int} (h : unitsN l = some ts) (h2 : l.getD 0 0 % 32 = 28) : 2 < l.length := by
 unfold unitsN partN at h
 rw [if_neg (fun h0 => by simp [h0] at h), if_neg (by omega), if_pos h2] at h
 split at h
 ·cases h
 ·rename_i h3
  rw [List.length_drop] at h3
  omega
end Go.Proofs.Ytojedpahaifjgaa

namespace Go.Proofs.Ytojedpahaifjgaa
open Go.RowKit
theorem slIn : SlTy Try.prog 151 3 1 8 := SlTy.mk' Try.underlying151 (by kernel_rfl) (by decide)
theorem nat_all (p : Nat → Bool) (h : (List.range 256).all p = true) (x : Nat) (hx : x < 256) : p x = true :=
 List.all_eq_true.1 h x (List.mem_range.2 hx)
theorem low31 (x : Nat) (hx : x < 256) : bits .and .u8 (x : Int) 31 = ((x % 32 : Nat) : Int) :=
 eq_of_beq (nat_all (fun x => bits .and .u8 (x : Int) 31 == ((x % 32 : Nat) : Int)) (by decide +kernel) x hx)
theorem bit32 (x : Nat) (hx : x < 256) : (bits .and .u8 (x : Int) 32 != 0) = decide (x / 32 % 2 = 1) :=
 eq_of_beq (nat_all (fun x => (bits .and .u8 (x : Int) 32 != 0) == decide (x / 32 % 2 = 1)) (by decide +kernel) x hx)
theorem bit128 (x : Nat) (hx : x < 256) : (bits .and .u8 (x : Int) 128 != 0) = decide (128 ≤ x) :=
 eq_of_beq (nat_all (fun x => (bits .and .u8 (x : Int) 128 != 0) == decide (128 ≤ x)) (by decide +kernel) x hx)
theorem bit128e (x : Nat) (hx : x < 256) : (bits .and .u8 (x : Int) 128 == 0) = decide (x < 128) :=
 eq_of_beq (nat_all (fun x => (bits .and .u8 (x : Int) 128 == 0) == decide (x < 128)) (by decide +kernel) x hx)
theorem bit64 (x : Nat) (hx : x < 256) : (bits .and .u8 (x : Int) 64 != 0) = decide (x / 64 % 2 = 1) :=
 eq_of_beq (nat_all (fun x => (bits .and .u8 (x : Int) 64 != 0) == decide (x / 64 % 2 = 1)) (by decide +kernel) x hx)
set_option maxRecDepth 100000 in
set_option maxHeartbeats 8000000 in
theorem num_short (v : Value) (len : Nat) (l : List Nat) (hno : len < 2) (w : World) (hv : SB w v len l) :
  Calls Try.prog 104 #[v, .int .i64 0, .int .i64 2] w fun e w' => e = .returned (.tuple #[.int .u64 0, .bool false]) ∧ w = w' := by
 obtain ⟨sa, cap, rfl, _, hm⟩ := hv.len
 unfold maxLen at hm
 replace hv := Lib.hid hv
 have h4 : decide ((len : Int) < 0) = false := by simp
 have h5 : decide ((len : Int) < 2) = true := by simp; omega
 go_enter Try.func104, Try.ntmps104
 go_wp2_with fail
 go_ret2
 exact ⟨rfl, rfl⟩
set_option maxRecDepth 100000 in
set_option maxHeartbeats 8000000 in
theorem ty_any (x : Nat) (hx : x < 256) (w : World) : Calls Try.prog 86 #[.int .u8 (x : Nat)] w fun e w' => e = .returned (.int .i64 ((x % 32 : Nat) : Int)) ∧ w = w' := by
 have q := low31 x hx
 have hy : x % 32 < 32 := Nat.mod_lt _ (by decide)
 generalize x % 32 = y at *
 go_enter Try.func86, Try.ntmps86
 go_wp2_with fail
 go_ret
 exact ⟨rfl, rfl⟩
def UnPost (o : Option (List Int)) (w : World) (e : Ending) (w' : World) : Prop :=
 ∃ v c, e = .returned (.tuple #[v, .int .i64 c]) ∧ BW w w' ∧ ((o = none ∧ (c != 0) = true ∧ v = .slice none 0 0) ∨ ∃ ts, o = some ts ∧ c = 0 ∧ EQ I1 3 w' w.heap.size v ts.length ts ∧ ts.length ≤ 1000000)
theorem UnPost.no {o : Option (List Int)} {w w' : World} {c : Int} (h : o = none) (hc : (c != 0) = true) (hb : BW w w') : UnPost o w (.returned (.tuple #[.slice none 0 0, .int .i64 c])) w' := ⟨_, _, rfl, hb, .inl ⟨h, hc, rfl⟩⟩
theorem UnPost.yes {o : Option (List Int)} {w w' : World} {v : Value} {ts : List Int} (h : o = some ts) (hb : BW w w') (hq : EQ I1 3 w' w.heap.size v ts.length ts) (hn : ts.length ≤ 1000000) : UnPost o w (.returned (.tuple #[v, .int .i64 0])) w' := ⟨_, _, rfl, hb, .inr ⟨ts, h, rfl, hq, hn⟩⟩
theorem one_new (w : World) (base : Nat) (hb : base ≤ w.heap.size) (t : Int) : EQ I1 3 (w.alloc (.cells #[.int .i64 t] 3)) base (.slice (some ⟨w.heap.size, 0, none⟩) 1 1) 1 [t] :=
 ⟨rfl, [.int .i64 t], Ows.new w base 3 1 #[.int .i64 t] [.int .i64 t] 1 hb rfl (by decide) rfl, [.int .i64 t], [], rfl, rfl, rfl⟩
set_option maxRecDepth 100000 in
set_option maxHeartbeats 8000000 in
theorem units_any (sa : Option Addr) (n cp : Nat) (l : List Nat) (w : World) (h : SB w (.slice sa n cp) n l) (hn : n ≤ 100000) :
  Calls Try.prog 98 #[.slice sa n cp] w (UnPost (unitsW l) w) := by
 have hH := Lib.hid h
 clear h
 obtain ⟨R, hR⟩ : ∃ R, unitsW l = R := ⟨_, rfl⟩
 rw [hR]
 have hR0 : Hid ((unitsW (l.drop 0)).map (([] : List Int) ++ ·) = R) := by rw [Hid, List.drop_zero, hR]; cases R <;> simp
 clear hR
 go_enter Try.func98, Try.ntmps98
 go_wp2_with fail
 go_step3
 go_wp2_with fail
 go_step3
 go_wp2_with fail
 go_loopg [0, 4] n (fun m' b o wx => ∃ (k : Nat) (sb so : Option Addr) (cb co m : Nat) (ts : List Int), m' = n - k ∧ k ≤ n ∧ b = .slice sb (n - k) cb ∧ o = .slice so m co ∧ co ≤ 9223372036854775807 ∧ m ≤ k ∧ Hid (SB w (.slice sb (n - k) cb) (n - k) (l.drop k)) ∧ Hid (EQ I1 3 wx w.heap.size (.slice so m co) m ts) ∧ Hid ((unitsW (l.drop k)).map (ts ++ ·) = R) ∧ Hid (BW w wx))
 case atStart => exact ⟨0, sa, none, cp, 0, 0, [], by omega, by omega, rfl, rfl, by omega, by omega, by simpa using hH, EQ.nil _ _ _ _, hR0, BW.refl _⟩
 case round =>
  clear hR0
  obtain ⟨k, sb, so, cb, co, m, ts, rfl, hk, rfl, rfl, hco, hm, S, Q, hR, B⟩ := hrel
  generalize hL : l.drop k = L at *
  obtain ⟨nk, hnk⟩ : ∃ nk, nk = n - k := ⟨_, rfl⟩
  rw [← hnk] at S ⊢
  have hlen := S.out.1
  have hby := S.out.2.1
  obtain ⟨_, _, he, hcb, hcm⟩ := S.out.len
  cases he
  unfold maxLen at hcm
  by_cases h2 : nk < 2
  ·have c := Lib.hid (num_short _ nk L h2 wr (S.out.bw B.out))
   have hU := unitsW_none (l := L) (.inl (by omega))
   rw [hU] at hR
   replace hlen := Lib.hid hlen
   replace hby := Lib.hid hby
   replace hnk := Lib.hid hnk
   replace hU := Lib.hid hU
   replace hL := Lib.hid hL
   go_wp2_with fail
   refine Calls.mono c.out ?_
   rintro e w1 ⟨rfl, rfl⟩
   dsimp only
   go_wp2_with fail
   go_ret2
   exact UnPost.no (by rw [← hR.out]; rfl) (by decide) B.out
  have hN : numB ((L.drop 0).take 2) = 256 * L.getD 0 0 + L.getD 1 0 := by
   match L, hlen with
   | a :: b :: r, _ => simp [numB]; omega
   | [a], h => simp at h; omega
   | [], h => simp at h; omega
  have c := num_ok _ nk L 0 2 0 2 (by omega) (by omega) (by omega) rfl rfl wr (S.out.bw B.out)
  rw [hN] at c
  have b0 := ByL.get hby 0
  have b1 := ByL.get hby 1
  have b2 := ByL.get hby 2
  obtain ⟨N, hNe⟩ : ∃ N, 256 * L.getD 0 0 + L.getD 1 0 = N := ⟨_, rfl⟩
  rw [hNe] at c
  have hNb : N < 65536 := by omega
  by_cases h0 : N = 0
  ·have hU := unitsW_none (l := L) (.inr (.inl (by omega)))
   rw [hU] at hR
   subst h0
   replace hlen := Lib.hid hlen
   replace hby := Lib.hid hby
   replace hnk := Lib.hid hnk
   replace hU := Lib.hid hU
   replace c := Lib.hid c
   replace hN := Lib.hid hN
   replace hNe := Lib.hid hNe
   replace hL := Lib.hid hL
   go_wp2_with fail
   refine Calls.mono c.out ?_
   rintro e w1 ⟨rfl, rfl⟩
   dsimp only
   go_wp2_with fail
   go_ret2
   exact UnPost.no (by rw [← hR.out]; rfl) (by decide) B.out
  have d0 : ((N : Int) == 0) = false := by simp; omega
  by_cases h3 : nk < 2 + N
  ·have hU := unitsW_none (l := L) (.inr (.inr (.inl (by omega))))
   rw [hU] at hR
   have d1 : decide ((nk : Int) - 2 < (N : Int)) = true := by simp; omega
   replace hlen := Lib.hid hlen
   replace hby := Lib.hid hby
   replace hnk := Lib.hid hnk
   replace hU := Lib.hid hU
   replace c := Lib.hid c
   replace hN := Lib.hid hN
   replace hNe := Lib.hid hNe
   replace hL := Lib.hid hL
   go_wp2_with fail
   refine Calls.mono c.out ?_
   rintro e w1 ⟨rfl, rfl⟩
   dsimp only
   go_wp2_with fail
   go_ret2
   exact UnPost.no (by rw [← hR.out]; rfl) (by decide) B.out
  have d1 : decide ((nk : Int) - 2 < (N : Int)) = false := by simp; omega
  obtain ⟨g, o, cap, hsl, -, -, -, hcell⟩ := (S.out.bw B.out).form (by omega)
  simp only [Value.slice.injEq] at hsl
  obtain ⟨hsb, -, -⟩ := hsl
  have z2 := hcell 2 (by omega)
  have cT := Lib.hid (ty_any (L.getD 2 0) b2 wr)
  obtain ⟨t, ht⟩ : ∃ t, L.getD 2 0 % 32 = t := ⟨_, rfl⟩
  rw [ht] at cT
  have r1 := fun w => run_cut_l (P := Try.prog) Try.underlying34 info_u8 sb nk cb (2 + N) (2 + (N : Int)) (by push_cast; rfl) .u64 (by omega) w
  by_cases ht0 : t = 0
  ·have hU := unitsW_none (l := L) (.inr (.inr (.inr (by omega))))
   rw [hU] at hR
   subst ht0 hsb
   generalize L.getD 2 0 = y at *
   clear hcell r1
   replace hlen := Lib.hid hlen
   replace hby := Lib.hid hby
   replace hnk := Lib.hid hnk
   replace hU := Lib.hid hU
   replace c := Lib.hid c
   replace hN := Lib.hid hN
   replace hNe := Lib.hid hNe
   replace hL := Lib.hid hL
   replace ht := Lib.hid ht
   go_wp2_with fail
   refine Calls.mono c.out ?_
   rintro e w1 ⟨rfl, rfl⟩
   dsimp only
   go_wp2_with fail
   refine Calls.mono cT.out ?_
   rintro e w1 ⟨rfl, rfl⟩
   dsimp only
   go_wp2_with fail
   go_ret2
   exact UnPost.no (by rw [← hR.out]; rfl) (by decide) B.out
  have d2 : ((t : Int) == 0) = false := by simp; omega
  have hcut := (S.out.cut (2 + N) nk cb (by omega) (Nat.le_refl _) hcb (Nat.le_refl _))
  have htk : (L.drop (2 + N)).take (nk - (2 + N)) = l.drop (k + (2 + N)) := by rw [List.take_of_length_le (by rw [List.length_drop]; omega), ← hL, List.drop_drop]
  rw [htk] at hcut
  have hkn : nk - (2 + N) = n - (k + (2 + N)) := by omega
  have hne : ¬ (L.length < 2 ∨ 256 * L.getD 0 0 + L.getD 1 0 = 0 ∨ L.length < 2 + (256 * L.getD 0 0 + L.getD 1 0) ∨ L.getD 2 0 % 32 = 0) := by omega
  have hU1 : L.length = 2 + N → unitsW L = some [((t : Nat) : Int)] := fun e => by rw [unitsW_last hne (by omega), ht]
  have hU2 : L.length ≠ 2 + N → unitsW L = (unitsW (l.drop (k + (2 + N)))).map fun r => ((t : Nat) : Int) :: r := fun e => by rw [unitsW_more hne (by omega), ht, hNe, ← hL, List.drop_drop]
  have hk2 : k + (2 + N) ≤ n := by omega
  subst hsb
  have hmk : m + 1 ≤ k + (2 + N) := by omega
  have hms : nk - (2 + N) < nk := by omega
  have htb : t < 32 := by omega
  generalize L.getD 2 0 = y at *
  obtain ⟨sb', hsb'⟩ : ∃ x, x = cutA (some ⟨g, o, none⟩) (2 + N) cb 1 := ⟨_, rfl⟩
  obtain ⟨cb', hcb'⟩ : ∃ x, x = cb - (2 + N) := ⟨_, rfl⟩
  obtain ⟨nk', hnk'⟩ : ∃ x, x = nk - (2 + N) := ⟨_, rfl⟩
  rw [← hsb', ← hcb', ← hnk'] at r1 hcut
  rw [← hnk'] at hkn hms
  clear hcell hne htk
  have hmx : co ≤ 9223372036854775807 := hco
  replace r1 := Lib.hid r1
  replace hlen := Lib.hid hlen
  replace hby := Lib.hid hby
  replace hnk := Lib.hid hnk
  replace c := Lib.hid c
  replace hN := Lib.hid hN
  replace hNe := Lib.hid hNe
  replace hL := Lib.hid hL
  replace ht := Lib.hid ht
  replace hcut := Lib.hid hcut
  replace hkn := Lib.hid hkn
  replace hU1 := Lib.hid hU1
  replace hU2 := Lib.hid hU2
  replace hsb' := Lib.hid hsb'
  replace hcb' := Lib.hid hcb'
  replace hnk' := Lib.hid hnk'
  go_wp2_with fail
  refine Calls.mono c.out ?_
  rintro e w1 ⟨rfl, rfl⟩
  dsimp only
  go_wp2_with fail
  refine Calls.mono cT.out ?_
  rintro e w1 ⟨rfl, rfl⟩
  dsimp only
  clear z2 cT c
  have BCq : BW wr (wr.alloc (.cells #[.int .i64 (t : Int)] 3)) := (BW.refl _).alloc
  have Lq := Lib.hid (Sls.new1 (E := I1) wr 3 [.int .i64 (t : Int)] rfl)
  replace Q := Lib.hid (Q.out.bw BCq)
  replace B := Lib.hid (B.out.trans BCq)
  have hzq := Lib.hid (B.out.size)
  replace BCq := Lib.hid BCq
  go_upto_region 13 with (at_builtin; go_must (refine wpList_apEQ slIn rfl _ _ rfl w.heap.size (.slice so m co) m ts rfl Q.out _ rfl 1 [(t : Int)] [.int .i64 (t : Int)] Lq.out (EL.single rfl) rfl (by omega) hzq.out (fun _ _ => trivial) ?_; intro s3 c3 w3 hcq hmq Qn Tn hbn Gn; unfold maxLen at hmq; replace Qn := Lib.hid Qn; replace Tn := Lib.hid Tn; replace Gn := Lib.hid Gn; clear hbn))
  replace B := Lib.hid (BW.stP B.out Tn.out (fun j hj => Q.out.ge' j (by simpa using hj)))
  clear Q Tn Gn Lq hzq BCq
  have Q := Qn
  clear Qn
  have r1' := r1.out
  clear r1
  by_cases hlast : nk' = 0
  ·subst hlast
   have hU := hU1.out (by have := hlen.out; have := hnk'.out; omega)
   replace hU := Lib.hid hU
   go_wp2_with fail
   go_ret2
   exact UnPost.yes (ts := ts ++ [(t : Int)]) (by rw [← hR.out, hU.out]; rfl) B.out (by have := Q.out.full; exact this) (by have := Q.out.1; omega)
  ·have d5 : ((nk' : Int) == 0) = false := by simp; omega
   have hU := hU2.out (by have := hlen.out; have := hnk'.out; omega)
   replace hU := Lib.hid hU
   go_wp2_with fail
   go_roundg nk'
   case measure => have := hnk.out; omega
   case rel => exact ⟨k + (2 + N), sb', s3, cb', c3, m + 1, ts ++ [(t : Int)], hkn.out, hk2, by rw [hkn.out], rfl, by omega, hmk, by rw [← hkn.out]; exact hcut, Q, Lib.hid (by rw [← hR.out, hU.out, map_app]), B⟩
theorem eq_decide {b : Bool} {p : Prop} [Decidable p] (h : b = decide p) (hp : p) : b = true := by rw [h]; exact decide_eq_true hp
theorem ne_decide {b : Bool} {p : Prop} [Decidable p] (h : b = decide p) (hp : ¬ p) : b = false := by rw [h]; exact decide_eq_false hp
set_option maxRecDepth 100000 in
set_option maxHeartbeats 8000000 in
theorem part_any (sa : Option Addr) (n cp : Nat) (l : List Nat) (w : World) (h : SB w (.slice sa n cp) n l) (hn : n ≤ 100000) :
  Calls Try.prog 99 #[.slice sa n cp] w (UnPost (partN l) w) := by
 have hlen := h.1
 have b0 := ByL.get h.2.1 0
 obtain ⟨_, _, he, hcp, hcm⟩ := h.len
 cases he
 unfold maxLen at hcm
 have hH := Lib.hid h
 clear h
 by_cases h2 : n < 2
 ·have hU : partN l = none := by unfold partN; rw [if_pos (.inl (by omega))]
  rw [hU]
  replace hU := Lib.hid hU
  replace hlen := Lib.hid hlen
  go_enter Try.func99, Try.ntmps99
  go_wp2_with fail
  go_ret2
  exact UnPost.no rfl (by decide) (BW.refl _)
 obtain ⟨g, o, cap, hsl, -, -, -, hcell⟩ := hH.out.form (by omega)
 simp only [Value.slice.injEq] at hsl
 obtain ⟨rfl, -, -⟩ := hsl
 have z0 := hcell 0 (by omega)
 rw [Nat.add_zero] at z0
 have cT := Lib.hid (ty_any (l.getD 0 0) b0 w)
 have e1 := bit32 _ b0
 have e2 := bit128 _ b0
 have e3 := bit64 _ b0
 have hP : ∀ p : Prop, (l.length < 2 ∨ l.getD 0 0 / 32 % 2 = 1 ∨ 192 ≤ l.getD 0 0 ∨ l.getD 0 0 % 32 < 1 ∨ 23 < l.getD 0 0 % 32) → partN l = none := fun _ h => by unfold partN; rw [if_pos h]
 by_cases hb : l.getD 0 0 / 32 % 2 = 1 ∨ 192 ≤ l.getD 0 0 ∨ l.getD 0 0 % 32 < 1 ∨ 23 < l.getD 0 0 % 32
 ·have hU : partN l = none := by unfold partN; rw [if_pos (.inr hb)]
  rw [hU]
  clear hP hcell
  generalize l.getD 0 0 = y at *
  replace hU := Lib.hid hU
  replace hlen := Lib.hid hlen
  by_cases k1 : y / 32 % 2 = 1
  ·have d1 := eq_decide e1 k1
   clear e1 e2 e3 hb
   replace k1 := Lib.hid k1
   go_enter Try.func99, Try.ntmps99
   go_wp2_with fail
   refine Calls.mono cT.out ?_
   rintro e w1 ⟨rfl, rfl⟩
   dsimp only
   go_wp2_with fail
   go_ret2
   exact UnPost.no rfl (by decide) (BW.refl _)
  have d1 := ne_decide e1 k1
  by_cases k2 : 192 ≤ y
  ·have d2 := eq_decide e2 (show 128 ≤ y by omega)
   have d3 := eq_decide e3 (show y / 64 % 2 = 1 by omega)
   clear e1 e2 e3 hb
   replace k1 := Lib.hid k1
   replace k2 := Lib.hid k2
   go_enter Try.func99, Try.ntmps99
   go_wp2_with fail
   refine Calls.mono cT.out ?_
   rintro e w1 ⟨rfl, rfl⟩
   dsimp only
   go_wp2_with fail
   go_ret2
   exact UnPost.no rfl (by decide) (BW.refl _)
  have d23 : (bits .and .u8 (y : Int) 128 != 0) = false ∨ ((bits .and .u8 (y : Int) 128 != 0) = true ∧ (bits .and .u8 (y : Int) 64 != 0) = false) := by
   by_cases k3 : 128 ≤ y
   ·exact .inr ⟨eq_decide e2 k3, ne_decide e3 (by omega)⟩
   ·exact .inl (ne_decide e2 k3)
  clear e1 e2 e3
  by_cases k4 : y % 32 < 1
  ·have d4 : decide (((y % 32 : Nat) : Int) < 1) = true := by simp; omega
   generalize y % 32 = t at *
   clear hb
   replace k1 := Lib.hid k1
   replace k2 := Lib.hid k2
   replace k4 := Lib.hid k4
   rcases d23 with d2 | ⟨d2, d3⟩
   all_goals
    go_enter Try.func99, Try.ntmps99
    go_wp2_with fail
    refine Calls.mono cT.out ?_
    rintro e w1 ⟨rfl, rfl⟩
    dsimp only
    go_wp2_with fail
    go_ret2
    exact UnPost.no rfl (by decide) (BW.refl _)
  have d4 : decide (((y % 32 : Nat) : Int) < 1) = false := by simp; omega
  have d5 : decide ((23 : Int) < ((y % 32 : Nat) : Int)) = true := by simp; omega
  generalize y % 32 = t at *
  clear hb
  replace k1 := Lib.hid k1
  replace k2 := Lib.hid k2
  replace k4 := Lib.hid k4
  rcases d23 with d2 | ⟨d2, d3⟩
  all_goals
   go_enter Try.func99, Try.ntmps99
   go_wp2_with fail
   refine Calls.mono cT.out ?_
   rintro e w1 ⟨rfl, rfl⟩
   dsimp only
   go_wp2_with fail
   go_ret2
   exact UnPost.no rfl (by decide) (BW.refl _)
 ·have hU : partN l = some [((l.getD 0 0 % 32 : Nat) : Int)] := by unfold partN; rw [if_neg (by omega)]
  rw [hU]
  clear hP hcell
  generalize l.getD 0 0 = y at *
  have d1 := ne_decide e1 (show ¬ y / 32 % 2 = 1 by omega)
  have d4 : decide (((y % 32 : Nat) : Int) < 1) = false := by simp; omega
  have d5 : decide ((23 : Int) < ((y % 32 : Nat) : Int)) = false := by simp; omega
  have d23 : (bits .and .u8 (y : Int) 128 != 0) = false ∨ ((bits .and .u8 (y : Int) 128 != 0) = true ∧ (bits .and .u8 (y : Int) 64 != 0) = false) := by
   by_cases k3 : 128 ≤ y
   ·exact .inr ⟨eq_decide e2 k3, ne_decide e3 (by omega)⟩
   ·exact .inl (ne_decide e2 k3)
  clear e1 e2 e3 hb
  generalize y % 32 = t at *
  have q1 := Lib.hid (one_new w w.heap.size (Nat.le_refl _) (t : Int))
  replace hU := Lib.hid hU
  replace hlen := Lib.hid hlen
  rcases d23 with d2 | ⟨d2, d3⟩
  all_goals
   go_enter Try.func99, Try.ntmps99
   go_wp2_with fail
   refine Calls.mono cT.out ?_
   rintro e w1 ⟨rfl, rfl⟩
   dsimp only
   go_wp2_with fail
   go_ret2
   exact UnPost.yes rfl (BW.refl _).alloc q1.out (by simp)
end Go.Proofs.Ytojedpahaifjgaa

namespace Go.Proofs.Ytojedpahaifjgaa
open Go.RowKit
set_option maxRecDepth 100000 in
set_option maxHeartbeats 8000000 in
theorem Units_any (sa : Option Addr) (n cp : Nat) (l : List Nat) (w : World) (h : SB w (.slice sa n cp) n l) (hn : n ≤ 100000) :
  Calls Try.prog 85 #[.slice sa n cp] w (UnPost (unitsN l) w) := by
 have hlen := h.1
 have b0 := ByL.get h.2.1 0
 obtain ⟨_, _, he, hcp, hcm⟩ := h.len
 cases he
 unfold maxLen at hcm
 by_cases h2 : n = 0
 ·have hU : unitsN l = none := by unfold unitsN; rw [if_pos (by omega)]
  rw [hU]
  have d : ((n : Int) == 0) = true := by simpa using h2
  clear h
  replace hU := Lib.hid hU
  replace hlen := Lib.hid hlen
  replace h2 := Lib.hid h2
  go_enter Try.func85, Try.ntmps85
  go_wp2_with fail
  go_ret2
  exact UnPost.no rfl (by decide) (BW.refl _)
 have d : ((n : Int) == 0) = false := by simpa using h2
 have hn0 : 0 < n := by omega
 obtain ⟨g, o, cap, hsl, -, -, -, hcell⟩ := h.form (by omega)
 simp only [Value.slice.injEq] at hsl
 obtain ⟨hsa, -, -⟩ := hsl
 have z0 := hcell 0 (by omega)
 rw [Nat.add_zero] at z0
 have cT := Lib.hid (ty_any (l.getD 0 0) b0 w)
 have r1 := fun w => run_cut_l (P := Try.prog) Try.underlying34 info_u8 sa n cp 1 1 rfl .i64 (by omega) w
 have hcut := h.cut 1 n cp (by omega) (Nat.le_refl _) hcp (Nat.le_refl _)
 rw [List.take_of_length_le (by rw [List.length_drop]; omega)] at hcut
 have hU : unitsN l = if l.getD 0 0 % 32 = 24 then unitsW (l.drop 1) else if l.getD 0 0 % 32 = 28 then partN (l.drop 1) else if 1 ≤ l.getD 0 0 % 32 ∧ l.getD 0 0 % 32 ≤ 23 then some [((l.getD 0 0 % 32 : Nat) : Int)] else none := by
  unfold unitsN; rw [if_neg (by omega)]
 have cU := Lib.hid (units_any _ _ _ _ w hcut (by omega))
 have cP := Lib.hid (part_any _ _ _ _ w hcut (by omega))
 obtain ⟨sc, hsc⟩ : ∃ x, x = cutA sa 1 cp 1 := ⟨_, rfl⟩
 rw [← hsc] at r1 cU cP
 subst hsa
 clear hcell h hcut
 have ht : l.getD 0 0 % 32 < 32 := Nat.mod_lt _ (by decide)
 generalize l.getD 0 0 % 32 = t at *
 generalize l.getD 0 0 = y at *
 rw [hU]
 replace hsc := Lib.hid hsc
 replace hlen := Lib.hid hlen
 replace h2 := Lib.hid h2
 replace hU := Lib.hid hU
 by_cases k1 : t = 24
 ·rw [if_pos k1]
  have e1 : ((t : Int) == 24) = true := by simp; omega
  replace k1 := Lib.hid k1
  go_enter Try.func85, Try.ntmps85
  go_wp2_with fail
  refine Calls.mono cT.out ?_
  rintro e w1 ⟨rfl, rfl⟩
  dsimp only
  go_wp2_with fail
  refine Calls.mono cU.out ?_
  rintro e w1 ⟨v, c, rfl, hb, hR⟩
  replace hR := Lib.hid hR
  replace hb := Lib.hid hb
  dsimp only
  go_wp2_with fail
  go_ret2
  exact ⟨v, c, rfl, hb.out, hR.out⟩
 rw [if_neg k1]
 have e1 : ((t : Int) == 24) = false := by simp; omega
 by_cases k2 : t = 28
 ·rw [if_pos k2]
  have e2 : ((t : Int) == 28) = true := by simp; omega
  replace k1 := Lib.hid k1
  replace k2 := Lib.hid k2
  go_enter Try.func85, Try.ntmps85
  go_wp2_with fail
  refine Calls.mono cT.out ?_
  rintro e w1 ⟨rfl, rfl⟩
  dsimp only
  go_wp2_with fail
  refine Calls.mono cP.out ?_
  rintro e w1 ⟨v, c, rfl, hb, hR⟩
  replace hR := Lib.hid hR
  replace hb := Lib.hid hb
  dsimp only
  go_wp2_with fail
  go_ret2
  exact ⟨v, c, rfl, hb.out, hR.out⟩
 rw [if_neg k2]
 have e2 : ((t : Int) == 28) = false := by simp; omega
 have q1 := Lib.hid (one_new w w.heap.size (Nat.le_refl _) (t : Int))
 by_cases k3 : 1 ≤ t
 ·have e3 : decide ((1 : Int) ≤ (t : Int)) = true := by simp; omega
  by_cases k4 : t ≤ 23
  ·have e4 : decide ((t : Int) ≤ 23) = true := by simp; omega
   rw [if_pos ⟨k3, k4⟩]
   replace k1 := Lib.hid k1
   replace k2 := Lib.hid k2
   go_enter Try.func85, Try.ntmps85
   go_wp2_with fail
   refine Calls.mono cT.out ?_
   rintro e w1 ⟨rfl, rfl⟩
   dsimp only
   go_wp2_with fail
   go_ret2
   exact UnPost.yes rfl (BW.refl _).alloc q1.out (by simp)
  ·have e4 : decide ((t : Int) ≤ 23) = false := by simp; omega
   rw [if_neg (fun h => k4 h.2)]
   replace k1 := Lib.hid k1
   replace k2 := Lib.hid k2
   go_enter Try.func85, Try.ntmps85
   go_wp2_with fail
   refine Calls.mono cT.out ?_
   rintro e w1 ⟨rfl, rfl⟩
   dsimp only
   go_wp2_with fail
   go_ret2
   exact UnPost.no rfl (by decide) (BW.refl _)
 ·have e3 : decide ((1 : Int) ≤ (t : Int)) = false := by simp; omega
  rw [if_neg (fun h => k3 h.1)]
  replace k1 := Lib.hid k1
  replace k2 := Lib.hid k2
  replace k3 := Lib.hid k3
  go_enter Try.func85, Try.ntmps85
  go_wp2_with fail
  refine Calls.mono cT.out ?_
  rintro e w1 ⟨rfl, rfl⟩
  dsimp only
  go_wp2_with fail
  go_ret2
  exact UnPost.no rfl (by decide) (BW.refl _)
set_option maxRecDepth 100000 in
set_option maxHeartbeats 8000000 in
theorem isK_any (t : Int) (w : World) : Calls Try.prog 88 #[.int .i64 t] w fun e w' => e = .returned (.bool (isK t)) ∧ w = w' := by
 have q : isK t = (t == 5 || t == 7 || t == 8) := rfl
 cases h1 : (t == 5) with
 | true =>
  rw [h1] at q
  replace q := Lib.hid q
  go_enter Try.func88, Try.ntmps88
  go_wp2_with fail
  go_ret
  exact ⟨by rw [q.out]; rfl, rfl⟩
 | false =>
  cases h2 : (t == 7) with
  | true =>
   rw [h1, h2] at q
   replace q := Lib.hid q
   go_enter Try.func88, Try.ntmps88
   go_wp2_with fail
   go_ret
   exact ⟨by rw [q.out]; rfl, rfl⟩
  | false =>
   rw [h1, h2] at q
   replace q := Lib.hid q
   go_enter Try.func88, Try.ntmps88
   go_wp2_with fail
   go_ret
   exact ⟨by rw [q.out]; rfl, rfl⟩
theorem enterK (args : Array Value) (w : World) : (callFunc 88 args).run Try.prog w = .ok (.enter 88 args) w := by kernel_rfl
set_option maxRecDepth 100000 in
set_option maxHeartbeats 8000000 in
theorem iidx_any (base n : Nat) (v : Value) (L : List Int) (w : World) (h : EQ I1 3 w base v n L) (hn : n ≤ 1000000) :
  Calls Try.prog 100 #[v, .func (.func 88) #[] #[]] w fun e w' => (∃ r : Int, e = .returned (.int .i64 r) ∧ decide (0 ≤ r) = L.any isK) ∧ w = w' := by
 have hN := enterK
 obtain ⟨sa, cap, rfl, hnc, hcm⟩ := h.len
 unfold maxLen at hcm
 have hH := Lib.hid h
 have hdl := Lib.hid h.1
 clear h
 have hA : L.any isK = (L.drop 0).any isK := by rw [List.drop_zero]
 generalize L.any isK = R at *
 replace hA := Lib.hid hA
 go_enter Try.func100, Try.ntmps100
 go_upto_region 2 with (fail)
 go_loopg [8] n (fun m' i wx => ∃ k : Nat, m' = n - k ∧ k ≤ n ∧ i = .int .i64 (k : Nat) ∧ Hid (R = (L.drop k).any isK) ∧ Hid (w = wx))
 case atStart => exact ⟨0, by omega, by omega, rfl, hA, rfl⟩
 case round =>
  clear hA
  obtain ⟨k, rfl, hk, rfl, hA, hw⟩ := hrel
  obtain rfl := hw.out
  by_cases hkn : k < n
  ·have d : decide ((k : Int) < (n : Int)) = true := by simp; omega
   have hkD : k < L.length := by rw [hdl.out]; exact hkn
   obtain ⟨g, o, rfl, hc⟩ := i1_form hH.out (by omega)
   have z0 := hc k hkD
   have hA2 := hA.out
   rw [List.drop_eq_getElem_cons hkD, List.any_cons] at hA2
   generalize L[k] = t at *
   have cF := Lib.hid (isK_any t w)
   clear hc hA
   replace hA2 := Lib.hid hA2
   go_wp2_with fail
   refine Calls.mono cF.out ?_
   rintro e w2 ⟨rfl, rfl⟩
   clear cF z0
   dsimp only
   cases hq : isK t with
   | true =>
    have hR : R = true := by rw [hA2.out, hq]; rfl
    replace hR := Lib.hid hR
    replace hA2 := Lib.hid hA2
    replace hq := Lib.hid hq
    go_wp2_with fail
    go_ret
    exact ⟨⟨_, rfl, by rw [hR.out]; simp⟩, rfl⟩
   | false =>
    have hR : R = (L.drop (k + 1)).any isK := by rw [hA2.out, hq]; rfl
    replace hR := Lib.hid hR
    replace hA2 := Lib.hid hA2
    replace hq := Lib.hid hq
    go_wp2_with fail
    go_roundg (n - (k + 1))
    case measure => omega
    case rel => exact ⟨k + 1, rfl, by omega, by push_cast; rfl, hR, rfl⟩
  ·obtain rfl : k = n := by omega
   have d : decide ((k : Int) < (k : Int)) = false := by simp
   have hR : R = false := by rw [hA.out, List.drop_of_length_le (by rw [hdl.out]; exact Nat.le_refl _)]; rfl
   replace hR := Lib.hid hR
   go_wp2_with fail
   go_ret
   exact ⟨⟨_, rfl, by rw [hR.out]; decide⟩, rfl⟩
set_option maxRecDepth 100000 in
set_option maxHeartbeats 8000000 in
theorem ihas_any (base n : Nat) (v : Value) (L : List Int) (w : World) (h : EQ I1 3 w base v n L) (hn : n ≤ 1000000) :
  Calls Try.prog 87 #[v, .func (.func 88) #[] #[]] w fun e w' => e = .returned (.bool (L.any isK)) ∧ w = w' := by
 have c := Lib.hid (iidx_any base n v L w h hn)
 obtain ⟨sa, cap, rfl, hnc, hcm⟩ := h.len
 clear h
 generalize L.any isK = b at *
 go_enter Try.func87, Try.ntmps87
 go_wp2_with fail
 refine Calls.mono c.out ?_
 rintro e w2 ⟨⟨r, rfl, hr⟩, rfl⟩
 dsimp only
 go_wp2_with fail
 go_ret
 exact ⟨rfl, rfl⟩
set_option maxRecDepth 100000 in
set_option maxHeartbeats 8000000 in
theorem keyA_any (sa : Option Addr) (n cp : Nat) (l : List Nat) (w : World) (h : SB w (.slice sa n cp) n l) (hn : n ≤ 100000) :
  Calls Try.prog 72 #[.slice sa n cp] w fun e w' => e = .returned (.bool (keyA l)) ∧ BW w w' := by
 have cU := Lib.hid (Units_any sa n cp l w h hn)
 have hH := Lib.hid h
 have hlen := Lib.hid h.1
 have hby := Lib.hid h.2.1
 clear h
 obtain ⟨K, hK⟩ : ∃ K, keyA l = K := ⟨_, rfl⟩
 rw [hK]
 replace hK := Lib.hid hK
 go_enter Try.func72, Try.ntmps72
 go_wp2_with fail
 refine Calls.mono cU.out ?_
 rintro e w1 ⟨v, c, rfl, hb, hR⟩
 replace hb := Lib.hid hb
 rcases hR with ⟨hU, hc, rfl⟩ | ⟨ts, hU, rfl, Q, hts⟩
 ·have hK2 : K = false := by rw [← hK.out]; exact keyA_none hU
  replace hU := Lib.hid hU
  replace hK2 := Lib.hid hK2
  dsimp only
  go_wp2_with fail
  go_ret
  exact ⟨by rw [hK2.out]; rfl, hb.out⟩
 have hp := unitsN_pos hU
 have h2 := unitsN_two hU
 obtain ⟨sv, cv, rfl, hcv, hcvm⟩ := Q.len
 unfold maxLen at hcvm
 obtain ⟨g, o, cap, hsl, -, -, -, hcell⟩ := (hH.out.bw hb.out).form (by rw [← hlen.out]; exact hp)
 simp only [Value.slice.injEq] at hsl
 obtain ⟨rfl, -, -⟩ := hsl
 have hl := hlen.out
 have z0 := hcell 0 (by omega)
 rw [Nat.add_zero] at z0
 have hn0 : 0 < n := by omega
 have cT := Lib.hid (ty_any (l.getD 0 0) (ByL.get hby.out 0) w1)
 by_cases k1 : l.getD 0 0 % 32 = 28
 ·have z1 := hcell 1 (by have := h2 k1; omega)
  have e1 := bit128e _ (ByL.get hby.out 1)
  have hn1 : (1 : Int) < n := by have := h2 k1; omega
  by_cases k2 : l.getD 1 0 < 128
  ·have hK2 : K = false := by rw [← hK.out]; exact keyA_no ⟨k1, k2⟩
   have d2 := eq_decide e1 k2
   have d1 : (((l.getD 0 0 % 32 : Nat) : Int) == 28) = true := by rw [k1]; rfl
   generalize l.getD 0 0 % 32 = t at *
   generalize l.getD 0 0 = y at *
   generalize l.getD 1 0 = y1 at *
   clear h2 hcell e1
   replace hU := Lib.hid hU
   replace hK2 := Lib.hid hK2
   replace k1 := Lib.hid k1
   replace hl := Lib.hid hl
   dsimp only
   go_wp2_with fail
   refine Calls.mono cT.out ?_
   rintro e w2 ⟨rfl, rfl⟩
   dsimp only
   go_wp2_with fail
   go_ret
   exact ⟨by rw [hK2.out]; rfl, hb.out⟩
  ·have hK2 : K = ts.any isK := by rw [← hK.out]; exact keyA_some hU (fun h => k2 h.2)
   have d2 := ne_decide e1 k2
   have d1 : (((l.getD 0 0 % 32 : Nat) : Int) == 28) = true := by rw [k1]; rfl
   have cC := Lib.hid (ihas_any _ _ _ _ w1 Q hts)
   generalize l.getD 0 0 % 32 = t at *
   generalize l.getD 0 0 = y at *
   generalize l.getD 1 0 = y1 at *
   generalize ts.any isK = r at *
   clear h2 hcell e1
   replace hU := Lib.hid hU
   replace hK2 := Lib.hid hK2
   replace k1 := Lib.hid k1
   replace hl := Lib.hid hl
   replace Q := Lib.hid Q
   dsimp only
   go_wp2_with fail
   refine Calls.mono cT.out ?_
   rintro e w2 ⟨rfl, rfl⟩
   dsimp only
   go_wp2_with fail
   refine Calls.mono cC.out ?_
   rintro e w2 ⟨rfl, rfl⟩
   dsimp only
   go_wp2_with fail
   go_ret
   exact ⟨by rw [hK2.out]; rfl, hb.out⟩
 ·have hK2 : K = ts.any isK := by rw [← hK.out]; exact keyA_some hU (fun h => k1 h.1)
  have d1 : (((l.getD 0 0 % 32 : Nat) : Int) == 28) = false := beq_eq_false_iff_ne.2 (by omega)
  have cC := Lib.hid (ihas_any _ _ _ _ w1 Q hts)
  generalize l.getD 0 0 % 32 = t at *
  generalize l.getD 0 0 = y at *
  generalize ts.any isK = r at *
  clear h2 hcell
  replace hU := Lib.hid hU
  replace hK2 := Lib.hid hK2
  replace k1 := Lib.hid k1
  replace hl := Lib.hid hl
  replace Q := Lib.hid Q
  dsimp only
  go_wp2_with fail
  refine Calls.mono cT.out ?_
  rintro e w2 ⟨rfl, rfl⟩
  dsimp only
  go_wp2_with fail
  refine Calls.mono cC.out ?_
  rintro e w2 ⟨rfl, rfl⟩
  dsimp only
  go_wp2_with fail
  go_ret
  exact ⟨by rw [hK2.out]; rfl, hb.out⟩
end Go.Proofs.Ytojedpahaifjgaa
