/- Text of offers: strings joined, numbers written (small ones without a table). No condition but the sizes'. -/
import Derived.Test.YtafhnlnhflehhaaDoorOfW
import Derived.Shelf.Strconv.Itoa3
import Derived.Shelf.Strings.OnBuilder
namespace Go.Proofs.YtafhnlnhflehhaaDoor
open Go.RowKit Go.Shelf
def laysItoa_ren : Go.Shelf.Ren := ⟨fun | 171 => 18 | 243 => 28 | 246 => 41 | 283 => 42 | 284 => 43 | 285 => 44 | 286 => 45 | 129 => 53 | 317 => 52 | 318 => 54 | 319 => 55 | 320 => 56 | 337 => 69 | 338 => 70 | n => n, fun | 3 => 3 | 9 => 9 | 2 => 2 | 4 => 4 | 171 => 77 | 0 => 0 | 53 => 26 | 37 => 61 | 5 => 5 | 173 => 80 | 212 => 90 | 51 => 36 | 20 => 20 | 213 => 91 | 46 => 86 | 232 => 111 | 233 => 112 | n => n, fun | 17 => 0 | 18 => 2 | 19 => 3 | n => n⟩
theorem laysItoa : Go.Proofs.LaysM.n171 Tryd.prog laysItoa_ren := {
 mixed := by kernel_rfl
 f129 := Tryd.func53.trans (congrArg some (by kernel_rfl))
 f171 := Tryd.func18.trans (congrArg some (by kernel_rfl))
 f243 := Tryd.func28.trans (congrArg some (by kernel_rfl))
 f246 := Tryd.func41.trans (congrArg some (by kernel_rfl))
 f283 := Tryd.func42.trans (congrArg some (by kernel_rfl))
 f284 := Tryd.func43.trans (congrArg some (by kernel_rfl))
 f285 := Tryd.func44.trans (congrArg some (by kernel_rfl))
 f286 := Tryd.func45.trans (congrArg some (by kernel_rfl))
 f317 := Tryd.func52.trans (congrArg some (by kernel_rfl))
 f318 := Tryd.func54.trans (congrArg some (by kernel_rfl))
 f319 := Tryd.func55.trans (congrArg some (by kernel_rfl))
 f320 := Tryd.func56.trans (congrArg some (by kernel_rfl))
 f337 := Tryd.func69.trans (congrArg some (by kernel_rfl))
 f338 := Tryd.func70.trans (congrArg some (by kernel_rfl))
 t0 := Tryd.underlying0
 a0 := Tryd.isAgg0
 z0 := Tryd.sizeOf0
 v0 := Tryd.zeroValue0
 t2 := Tryd.underlying2
 a2 := Tryd.isAgg2
 z2 := Tryd.sizeOf2
 v2 := Tryd.zeroValue2
 t3 := Tryd.underlying3
 a3 := Tryd.isAgg3
 z3 := Tryd.sizeOf3
 v3 := Tryd.zeroValue3
 t4 := Tryd.underlying4
 a4 := Tryd.isAgg4
 z4 := Tryd.sizeOf4
 v4 := Tryd.zeroValue4
 t5 := Tryd.underlying5
 a5 := Tryd.isAgg5
 z5 := Tryd.sizeOf5
 v5 := Tryd.zeroValue5
 t9 := Tryd.underlying9
 a9 := Tryd.isAgg9
 z9 := Tryd.sizeOf9
 v9 := Tryd.zeroValue9
 t20 := Tryd.underlying20
 a20 := Tryd.isAgg20
 z20 := Tryd.sizeOf20
 v20 := Tryd.zeroValue20
 t37 := Tryd.underlying61
 a37 := Tryd.isAgg61
 z37 := Tryd.sizeOf61
 v37 := Tryd.zeroValue61
 t46 := Tryd.underlying86
 a46 := Tryd.isAgg86
 z46 := Tryd.sizeOf86
 v46 := Tryd.zeroValue86
 t51 := Tryd.underlying36
 a51 := Tryd.isAgg36
 z51 := Tryd.sizeOf36
 v51 := Tryd.zeroValue36
 t53 := Tryd.underlying26
 a53 := Tryd.isAgg26
 z53 := Tryd.sizeOf26
 v53 := Tryd.zeroValue26
 t171 := Tryd.underlying77
 a171 := Tryd.isAgg77
 z171 := Tryd.sizeOf77
 v171 := Tryd.zeroValue77
 t173 := Tryd.underlying80
 a173 := Tryd.isAgg80
 z173 := Tryd.sizeOf80
 v173 := Tryd.zeroValue80
 t212 := Tryd.underlying90
 a212 := Tryd.isAgg90
 z212 := Tryd.sizeOf90
 v212 := Tryd.zeroValue90
 t213 := Tryd.underlying91
 a213 := Tryd.isAgg91
 z213 := Tryd.sizeOf91
 t232 := Tryd.underlying111
 a232 := Tryd.isAgg111
 z232 := Tryd.sizeOf111
 v232 := Tryd.zeroValue111
 t233 := Tryd.underlying112
 a233 := Tryd.isAgg112
 z233 := Tryd.sizeOf112
 v233 := Tryd.zeroValue112
 g17 := by kernel_rfl
 g18 := by kernel_rfl
 g19 := by kernel_rfl
 i0 := by kernel_rfl
 i2 := by kernel_rfl
 i3 := by kernel_rfl
 i4 := by kernel_rfl
 i5 := by kernel_rfl
 i9 := by kernel_rfl
 i20 := by kernel_rfl
 i37 := by kernel_rfl
 i46 := by kernel_rfl
 i51 := by kernel_rfl
 i53 := by kernel_rfl
 i171 := by kernel_rfl
 i173 := by kernel_rfl
 i212 := by kernel_rfl
 i232 := by kernel_rfl
 i233 := by kernel_rfl
 m17 := by kernel_rfl
 m18 := by kernel_rfl
 m19 := by kernel_rfl }
def laysSmall_ren : Go.Shelf.Ren := ⟨fun | 283 => 42 | n => n, fun | 3 => 3 | 9 => 9 | 4 => 4 | n => n, fun | n => n⟩
theorem laysSmall : Go.Proofs.Lays.n283 Tryd.prog laysSmall_ren := {
 mixed := by kernel_rfl
 f283 := Tryd.func42.trans (congrArg some (by kernel_rfl))
 t3 := Tryd.underlying3
 a3 := Tryd.isAgg3
 z3 := Tryd.sizeOf3
 v3 := Tryd.zeroValue3
 t4 := Tryd.underlying4
 a4 := Tryd.isAgg4
 z4 := Tryd.sizeOf4
 v4 := Tryd.zeroValue4
 t9 := Tryd.underlying9
 a9 := Tryd.isAgg9
 z9 := Tryd.sizeOf9
 v9 := Tryd.zeroValue9 }
theorem joinX : Builder.Extra Tryd.prog laysJoin_ren := {
 sizeBuilder := by kernel_rfl
 liesBuilder := by kernel_rfl
 t5 := Tryd.underlying5
 a5 := Tryd.isAgg5
 z5 := Tryd.sizeOf5
 v5 := Tryd.zeroValue5
 infoByte := by kernel_rfl
 cellsByte := by kernel_rfl
 sizeByte := by kernel_rfl
 neB5 := by decide }
theorem ba_size (x : ByteArray) : x.size = x.data.toList.length := by rw [Array.length_toList]; rfl
theorem ba_ext {x y : ByteArray} (h : x.data.toList = y.data.toList) : x = y := by
 obtain ⟨x⟩ := x
 obtain ⟨y⟩ := y
 simp only at h
 rw [Array.toList_inj.1 h]
def bS (l : List UInt8) : ByteArray := ⟨l.toArray⟩
theorem bS_list (l : List UInt8) : (bS l).data.toList = l := by simp [bS]
theorem bS_size (l : List UInt8) : (bS l).size = l.length := by rw [ba_size, bS_list]
structure NumC (w : World) (b : Nat) : Prop where
 itoa : ∀ y, BW w y → ∀ n : Nat, n < b → Calls Tryd.prog 18 #[.int .i64 (n : Nat)] y fun e w' => e = .returned (.string (bS (Lib.decDigits n))) ∧ BW y w'
 fmt : ∀ y, BW w y → ∀ n : Nat, n < b → Calls Tryd.prog 19 #[.int .u64 (n : Nat), .int .i64 10] y fun e w' => e = .returned (.string (bS (Lib.decDigits n))) ∧ BW y w'
set_option maxRecDepth 100000 in
set_option maxHeartbeats 8000000 in
theorem ifmt_small (n : Nat) (hn : n < 100) (w : World) :
  Calls Tryd.prog 29 #[.int .u64 (n : Nat), .int .i64 10] w fun e w' => e = .returned (.string (bS (Lib.decDigits n))) ∧ w' = w := by
 have d : decide ((n : Int) < 100) = true := decide_eq_true (by omega)
 have hm : n % 18446744073709551616 = n := Nat.mod_eq_of_lt (by omega)
 have cS : Hid (Calls Tryd.prog 42 #[.int .i64 (n : Nat)] w fun e w' => e = .returned (.string (bS (Lib.decDigits n))) ∧ w' = w) := Lib.hid (Any.internal_strconv_small laysSmall n hn w)
 generalize bS (Lib.decDigits n) = L at cS ⊢
 go_enter Tryd.func29, Tryd.ntmps29
 go_wp2_with fail
 refine Calls.mono cS.out ?_
 rintro e w1 ⟨rfl, rfl⟩
 clear cS
 dsimp only
 go_wp2_with fail
 go_ret
 exact ⟨rfl, rfl⟩
set_option maxRecDepth 100000 in
set_option maxHeartbeats 8000000 in
theorem fmt_small (n : Nat) (hn : n < 100) (w : World) :
  Calls Tryd.prog 19 #[.int .u64 (n : Nat), .int .i64 10] w fun e w' => e = .returned (.string (bS (Lib.decDigits n))) ∧ w' = w := by
 have cS := Lib.hid (ifmt_small n hn w)
 generalize bS (Lib.decDigits n) = L at cS ⊢
 go_enter Tryd.func19, Tryd.ntmps19
 go_wp2_with fail
 refine Calls.mono cS.out ?_
 rintro e w1 ⟨rfl, rfl⟩
 clear cS
 dsimp only
 go_wp2_with fail
 go_ret
 exact ⟨rfl, rfl⟩
theorem numC_small (w : World) : NumC w 100 where
 itoa := fun y _ n hn => (Any.strconv_Itoa_small { laysItoa with } n hn y).mono fun e w' h => ⟨h.1, by rw [h.2]; exact BW.refl _⟩
 fmt := fun y _ n hn => (fmt_small n hn y).mono fun e w' h => ⟨h.1, by rw [h.2]; exact BW.refl _⟩
def EStr : Elt ByteArray := pureE 1 (fun s => [.string s]) (by decide) (fun _ => rfl) (fun r u hu => by simp only [List.mem_cons, List.not_mem_nil, or_false] at hu; rw [hu]; rfl)
theorem slStr : SlTy Tryd.prog 49 9 1 16 := SlTy.mk' Tryd.underlying49 (by kernel_rfl) (by decide)
theorem join_any (base n cap : Nat) (s : Option Addr) (L : List ByteArray) (T : TypeId) (w : World) (h : EQ EStr T w base (.slice s n cap) n L) (h0 : 0 < n) (hn : n ≤ 1000) (hl : (Lib.join (L.map (·.data.toList)) [44]).length ≤ 100000) :
  Calls Tryd.prog 21 #[.slice s n cap, .string ⟨#[44]⟩] w fun e w' => e = .returned (.string (bS (Lib.join (L.map (·.data.toList)) [44]))) ∧ BW w w' := by
 have hln := h.1
 obtain ⟨_, _, he, hnc, hcm⟩ := h.len
 cases he
 obtain ⟨g, o, cap', hsl, hg1, hg2, _, _, hce⟩ := h.form h0
 simp only [Value.slice.injEq] at hsl
 obtain ⟨rfl, -, rfl⟩ := hsl
 have hc : ∀ (j : Nat) x, L[j]? = some x → w.cell? ⟨g, o + j, none⟩ = some (.string x) := fun j x hx => by
  obtain ⟨hj, rfl⟩ := List.getElem?_eq_some_iff.1 hx
  obtain ⟨c, hc, hcc⟩ := hce j hj
  have hc' : c = [.string L[j]] := hc
  have z := hcc 0 (by decide)
  have e2 : EStr.size = 1 := rfl
  rw [hc', e2, Nat.mul_one] at z
  exact z
 by_cases h2 : 2 ≤ n
 ·have X := Any.strings_Join_many laysJoin joinX g o cap L ⟨#[44]⟩ w hc hg2 (by omega) (by omega) (by omega) (by show (Lib.join _ [44]).length ≤ _; omega)
  rw [hln] at X
  exact X
 ·obtain rfl : n = 1 := by omega
  obtain ⟨x, rfl⟩ : ∃ x, L = [x] := by
   cases L with
   | nil => simp at hln
   | cons x r => cases r with
    | nil => exact ⟨x, rfl⟩
    | cons y r => simp at hln
  have X := Any.strings_Join_one laysJoin joinX g o cap x ⟨#[44]⟩ w (hc 0 x rfl)
  refine X.mono fun e w' h => ⟨?_, by rw [h.2]; exact BW.refl _⟩
  rw [h.1, List.map_singleton, Lib.join_one]
  rfl
end Go.Proofs.YtafhnlnhflehhaaDoor
