/- Text of offers: strings joined, numbers written (small ones without a table). No condition but the sizes'. -/
import Derived.Test.YtafhnlnhflehhaaGreatDoorOfS
import Derived.Test.YtafhnlnhflehhaaGreatDoorGHj
import Derived.Shelf.Strconv.Itoa3
import Derived.Shelf.Strings.OnBuilder
namespace Go.Proofs.YtafhnlnhflehhaaGreatDoor
open Go.RowKit Go.Shelf
def laysItoa_ren : Go.Shelf.Ren := ⟨fun | 171 => 14 | 243 => 31 | 246 => 50 | 283 => 51 | 284 => 52 | 285 => 53 | 286 => 54 | 129 => 68 | 317 => 67 | 318 => 69 | 319 => 70 | 320 => 71 | 337 => 89 | 338 => 90 | n => n, fun | 3 => 3 | 9 => 9 | 2 => 2 | 4 => 4 | 171 => 93 | 0 => 0 | 53 => 47 | 37 => 73 | 5 => 5 | 173 => 96 | 212 => 110 | 51 => 38 | 20 => 20 | 213 => 111 | 46 => 106 | 232 => 135 | 233 => 136 | n => n, fun | 17 => 0 | 18 => 2 | 19 => 3 | n => n⟩
theorem laysItoa : Go.Proofs.LaysM.n171 Tryz.prog laysItoa_ren := {
 mixed := by kernel_rfl
 f129 := Tryz.func68.trans (congrArg some (by kernel_rfl))
 f171 := Tryz.func14.trans (congrArg some (by kernel_rfl))
 f243 := Tryz.func31.trans (congrArg some (by kernel_rfl))
 f246 := Tryz.func50.trans (congrArg some (by kernel_rfl))
 f283 := Tryz.func51.trans (congrArg some (by kernel_rfl))
 f284 := Tryz.func52.trans (congrArg some (by kernel_rfl))
 f285 := Tryz.func53.trans (congrArg some (by kernel_rfl))
 f286 := Tryz.func54.trans (congrArg some (by kernel_rfl))
 f317 := Tryz.func67.trans (congrArg some (by kernel_rfl))
 f318 := Tryz.func69.trans (congrArg some (by kernel_rfl))
 f319 := Tryz.func70.trans (congrArg some (by kernel_rfl))
 f320 := Tryz.func71.trans (congrArg some (by kernel_rfl))
 f337 := Tryz.func89.trans (congrArg some (by kernel_rfl))
 f338 := Tryz.func90.trans (congrArg some (by kernel_rfl))
 t0 := Tryz.underlying0
 a0 := Tryz.isAgg0
 z0 := Tryz.sizeOf0
 v0 := Tryz.zeroValue0
 t2 := Tryz.underlying2
 a2 := Tryz.isAgg2
 z2 := Tryz.sizeOf2
 v2 := Tryz.zeroValue2
 t3 := Tryz.underlying3
 a3 := Tryz.isAgg3
 z3 := Tryz.sizeOf3
 v3 := Tryz.zeroValue3
 t4 := Tryz.underlying4
 a4 := Tryz.isAgg4
 z4 := Tryz.sizeOf4
 v4 := Tryz.zeroValue4
 t5 := Tryz.underlying5
 a5 := Tryz.isAgg5
 z5 := Tryz.sizeOf5
 v5 := Tryz.zeroValue5
 t9 := Tryz.underlying9
 a9 := Tryz.isAgg9
 z9 := Tryz.sizeOf9
 v9 := Tryz.zeroValue9
 t20 := Tryz.underlying20
 a20 := Tryz.isAgg20
 z20 := Tryz.sizeOf20
 v20 := Tryz.zeroValue20
 t37 := Tryz.underlying73
 a37 := Tryz.isAgg73
 z37 := Tryz.sizeOf73
 v37 := Tryz.zeroValue73
 t46 := Tryz.underlying106
 a46 := Tryz.isAgg106
 z46 := Tryz.sizeOf106
 v46 := Tryz.zeroValue106
 t51 := Tryz.underlying38
 a51 := Tryz.isAgg38
 z51 := Tryz.sizeOf38
 v51 := Tryz.zeroValue38
 t53 := Tryz.underlying47
 a53 := Tryz.isAgg47
 z53 := Tryz.sizeOf47
 v53 := Tryz.zeroValue47
 t171 := Tryz.underlying93
 a171 := Tryz.isAgg93
 z171 := Tryz.sizeOf93
 v171 := Tryz.zeroValue93
 t173 := Tryz.underlying96
 a173 := Tryz.isAgg96
 z173 := Tryz.sizeOf96
 v173 := Tryz.zeroValue96
 t212 := Tryz.underlying110
 a212 := Tryz.isAgg110
 z212 := Tryz.sizeOf110
 v212 := Tryz.zeroValue110
 t213 := Tryz.underlying111
 a213 := Tryz.isAgg111
 z213 := Tryz.sizeOf111
 t232 := Tryz.underlying135
 a232 := Tryz.isAgg135
 z232 := Tryz.sizeOf135
 v232 := Tryz.zeroValue135
 t233 := Tryz.underlying136
 a233 := Tryz.isAgg136
 z233 := Tryz.sizeOf136
 v233 := Tryz.zeroValue136
 g17 := by kernel_rfl
 g18 := by kernel_rfl
 g19 := by kernel_rfl
 i0 := by kernel_rfl
 i2 := by kernel_rfl
 i3 := by kernel_rfl
 i4 := by kernel_rfl
 i5 := by kernel_rfl
 i9 := by kernel_rfl
 i20 := by kernel_rfl
 i37 := by kernel_rfl
 i46 := by kernel_rfl
 i51 := by kernel_rfl
 i53 := by kernel_rfl
 i171 := by kernel_rfl
 i173 := by kernel_rfl
 i212 := by kernel_rfl
 i232 := by kernel_rfl
 i233 := by kernel_rfl
 m17 := by kernel_rfl
 m18 := by kernel_rfl
 m19 := by kernel_rfl }
def laysDig_ren : Go.Shelf.Ren := ⟨fun | 284 => 52 | 129 => 68 | 317 => 67 | 318 => 69 | n => n, fun | 53 => 47 | 3 => 3 | 212 => 110 | 0 => 0 | 4 => 4 | 46 => 106 | 5 => 5 | 9 => 9 | n => n, fun | 17 => 0 | n => n⟩
theorem laysDig : Go.Proofs.LaysM.n284 Tryz.prog laysDig_ren := {
 mixed := by kernel_rfl
 f129 := Tryz.func68.trans (congrArg some (by kernel_rfl))
 f284 := Tryz.func52.trans (congrArg some (by kernel_rfl))
 f317 := Tryz.func67.trans (congrArg some (by kernel_rfl))
 f318 := Tryz.func69.trans (congrArg some (by kernel_rfl))
 t0 := Tryz.underlying0
 a0 := Tryz.isAgg0
 z0 := Tryz.sizeOf0
 v0 := Tryz.zeroValue0
 t3 := Tryz.underlying3
 a3 := Tryz.isAgg3
 z3 := Tryz.sizeOf3
 v3 := Tryz.zeroValue3
 t4 := Tryz.underlying4
 a4 := Tryz.isAgg4
 z4 := Tryz.sizeOf4
 v4 := Tryz.zeroValue4
 t5 := Tryz.underlying5
 a5 := Tryz.isAgg5
 z5 := Tryz.sizeOf5
 v5 := Tryz.zeroValue5
 t9 := Tryz.underlying9
 a9 := Tryz.isAgg9
 z9 := Tryz.sizeOf9
 v9 := Tryz.zeroValue9
 t46 := Tryz.underlying106
 a46 := Tryz.isAgg106
 z46 := Tryz.sizeOf106
 v46 := Tryz.zeroValue106
 t53 := Tryz.underlying47
 a53 := Tryz.isAgg47
 z53 := Tryz.sizeOf47
 v53 := Tryz.zeroValue47
 t212 := Tryz.underlying110
 a212 := Tryz.isAgg110
 z212 := Tryz.sizeOf110
 v212 := Tryz.zeroValue110
 g17 := by kernel_rfl
 i0 := by kernel_rfl
 i3 := by kernel_rfl
 i4 := by kernel_rfl
 i5 := by kernel_rfl
 i9 := by kernel_rfl
 i46 := by kernel_rfl
 i53 := by kernel_rfl
 i212 := by kernel_rfl
 m17 := by kernel_rfl }
def laysF10_ren : Go.Shelf.Ren := ⟨fun | 285 => 53 | n => n, fun | 37 => 73 | 53 => 47 | 3 => 3 | 4 => 4 | 51 => 38 | 9 => 9 | 5 => 5 | 0 => 0 | n => n, fun | n => n⟩
theorem laysF10 : Go.Proofs.Lays.n285 Tryz.prog laysF10_ren := {
 mixed := by kernel_rfl
 f285 := Tryz.func53.trans (congrArg some (by kernel_rfl))
 t0 := Tryz.underlying0
 a0 := Tryz.isAgg0
 z0 := Tryz.sizeOf0
 v0 := Tryz.zeroValue0
 t3 := Tryz.underlying3
 a3 := Tryz.isAgg3
 z3 := Tryz.sizeOf3
 v3 := Tryz.zeroValue3
 t4 := Tryz.underlying4
 a4 := Tryz.isAgg4
 z4 := Tryz.sizeOf4
 v4 := Tryz.zeroValue4
 t5 := Tryz.underlying5
 a5 := Tryz.isAgg5
 z5 := Tryz.sizeOf5
 v5 := Tryz.zeroValue5
 t9 := Tryz.underlying9
 a9 := Tryz.isAgg9
 z9 := Tryz.sizeOf9
 v9 := Tryz.zeroValue9
 t37 := Tryz.underlying73
 a37 := Tryz.isAgg73
 z37 := Tryz.sizeOf73
 v37 := Tryz.zeroValue73
 t51 := Tryz.underlying38
 a51 := Tryz.isAgg38
 z51 := Tryz.sizeOf38
 v51 := Tryz.zeroValue38
 t53 := Tryz.underlying47
 a53 := Tryz.isAgg47
 z53 := Tryz.sizeOf47
 v53 := Tryz.zeroValue47 }
def laysSmall_ren : Go.Shelf.Ren := ⟨fun | 283 => 51 | n => n, fun | 3 => 3 | 9 => 9 | 4 => 4 | n => n, fun | n => n⟩
theorem laysSmall : Go.Proofs.Lays.n283 Tryz.prog laysSmall_ren := {
 mixed := by kernel_rfl
 f283 := Tryz.func51.trans (congrArg some (by kernel_rfl))
 t3 := Tryz.underlying3
 a3 := Tryz.isAgg3
 z3 := Tryz.sizeOf3
 v3 := Tryz.zeroValue3
 t4 := Tryz.underlying4
 a4 := Tryz.isAgg4
 z4 := Tryz.sizeOf4
 v4 := Tryz.zeroValue4
 t9 := Tryz.underlying9
 a9 := Tryz.isAgg9
 z9 := Tryz.sizeOf9
 v9 := Tryz.zeroValue9 }
theorem joinX : Builder.Extra Tryz.prog laysJoin_ren := {
 sizeBuilder := by kernel_rfl
 liesBuilder := by kernel_rfl
 t5 := Tryz.underlying5
 a5 := Tryz.isAgg5
 z5 := Tryz.sizeOf5
 v5 := Tryz.zeroValue5
 infoByte := by kernel_rfl
 cellsByte := by kernel_rfl
 sizeByte := by kernel_rfl
 neB5 := by decide }
theorem ba_size (x : ByteArray) : x.size = x.data.toList.length := by rw [Array.length_toList]; rfl
theorem ba_ext {x y : ByteArray} (h : x.data.toList = y.data.toList) : x = y := by
 obtain ⟨x⟩ := x
 obtain ⟨y⟩ := y
 simp only at h
 rw [Array.toList_inj.1 h]
def bS (l : List UInt8) : ByteArray := ⟨l.toArray⟩
theorem bS_list (l : List UInt8) : (bS l).data.toList = l := by simp [bS]
theorem bS_size (l : List UInt8) : (bS l).size = l.length := by rw [ba_size, bS_list]
structure NumC (w : World) (b : Nat) : Prop where
 itoa : ∀ y, BW w y → ∀ n : Nat, n < b → Calls Tryz.prog 14 #[.int .i64 (n : Nat)] y fun e w' => e = .returned (.string (bS (Lib.decDigits n))) ∧ BW y w'
 fmt : ∀ y, BW w y → ∀ n : Nat, n < b → Calls Tryz.prog 15 #[.int .u64 (n : Nat), .int .i64 10] y fun e w' => e = .returned (.string (bS (Lib.decDigits n))) ∧ BW y w'
set_option maxRecDepth 100000 in
set_option maxHeartbeats 8000000 in
theorem ifmt_small (n : Nat) (hn : n < 100) (w : World) :
  Calls Tryz.prog 32 #[.int .u64 (n : Nat), .int .i64 10] w fun e w' => e = .returned (.string (bS (Lib.decDigits n))) ∧ w' = w := by
 have d : decide ((n : Int) < 100) = true := decide_eq_true (by omega)
 have hm : n % 18446744073709551616 = n := Nat.mod_eq_of_lt (by omega)
 have cS : Hid (Calls Tryz.prog 51 #[.int .i64 (n : Nat)] w fun e w' => e = .returned (.string (bS (Lib.decDigits n))) ∧ w' = w) := Lib.hid (Any.internal_strconv_small laysSmall n hn w)
 generalize bS (Lib.decDigits n) = L at cS ⊢
 go_enter Tryz.func32, Tryz.ntmps32
 go_wp2_with fail
 refine Calls.mono cS.out ?_
 rintro e w1 ⟨rfl, rfl⟩
 clear cS
 dsimp only
 go_wp2_with fail
 go_ret
 exact ⟨rfl, rfl⟩
set_option maxRecDepth 100000 in
set_option maxHeartbeats 8000000 in
theorem fmt_small (n : Nat) (hn : n < 100) (w : World) :
  Calls Tryz.prog 15 #[.int .u64 (n : Nat), .int .i64 10] w fun e w' => e = .returned (.string (bS (Lib.decDigits n))) ∧ w' = w := by
 have cS := Lib.hid (ifmt_small n hn w)
 generalize bS (Lib.decDigits n) = L at cS ⊢
 go_enter Tryz.func15, Tryz.ntmps15
 go_wp2_with fail
 refine Calls.mono cS.out ?_
 rintro e w1 ⟨rfl, rfl⟩
 clear cS
 dsimp only
 go_wp2_with fail
 go_ret
 exact ⟨rfl, rfl⟩
theorem numC_small (w : World) : NumC w 100 where
 itoa := fun y _ n hn => (Any.strconv_Itoa_small { laysItoa with } n hn y).mono fun e w' h => ⟨h.1, by rw [h.2]; exact BW.refl _⟩
 fmt := fun y _ n hn => (fmt_small n hn y).mono fun e w' h => ⟨h.1, by rw [h.2]; exact BW.refl _⟩
def EStr : Elt ByteArray := pureE 1 (fun s => [.string s]) (by decide) (fun _ => rfl) (fun r u hu => by simp only [List.mem_cons, List.not_mem_nil, or_false] at hu; rw [hu]; rfl)
theorem slStr : SlTy Tryz.prog 45 9 1 16 := SlTy.mk' Tryz.underlying45 (by kernel_rfl) (by decide)
theorem join_any (base n cap : Nat) (s : Option Addr) (L : List ByteArray) (T : TypeId) (w : World) (h : EQ EStr T w base (.slice s n cap) n L) (h0 : 0 < n) (hn : n ≤ 1000) (hl : (Lib.join (L.map (·.data.toList)) [44]).length ≤ 100000) :
  Calls Tryz.prog 17 #[.slice s n cap, .string ⟨#[44]⟩] w fun e w' => e = .returned (.string (bS (Lib.join (L.map (·.data.toList)) [44]))) ∧ BW w w' := by
 have hln := h.1
 obtain ⟨_, _, he, hnc, hcm⟩ := h.len
 cases he
 obtain ⟨g, o, cap', hsl, hg1, hg2, _, _, hce⟩ := h.form h0
 simp only [Value.slice.injEq] at hsl
 obtain ⟨rfl, -, rfl⟩ := hsl
 have hc : ∀ (j : Nat) x, L[j]? = some x → w.cell? ⟨g, o + j, none⟩ = some (.string x) := fun j x hx => by
  obtain ⟨hj, rfl⟩ := List.getElem?_eq_some_iff.1 hx
  obtain ⟨c, hc, hcc⟩ := hce j hj
  have hc' : c = [.string L[j]] := hc
  have z := hcc 0 (by decide)
  have e2 : EStr.size = 1 := rfl
  rw [hc', e2, Nat.mul_one] at z
  exact z
 by_cases h2 : 2 ≤ n
 ·have X := Any.strings_Join_many laysJoin joinX g o cap L ⟨#[44]⟩ w hc hg2 (by omega) (by omega) (by omega) (by show (Lib.join _ [44]).length ≤ _; omega)
  rw [hln] at X
  exact X
 ·obtain rfl : n = 1 := by omega
  obtain ⟨x, rfl⟩ : ∃ x, L = [x] := by
   cases L with
   | nil => simp at hln
   | cons x r => cases r with
    | nil => exact ⟨x, rfl⟩
    | cons y r => simp at hln
  have X := Any.strings_Join_one laysJoin joinX g o cap x ⟨#[44]⟩ w (hc 0 x rfl)
  refine X.mono fun e w' h => ⟨?_, by rw [h.2]; exact BW.refl _⟩
  rw [h.1, List.map_singleton, Lib.join_one]
  rfl
end Go.Proofs.YtafhnlnhflehhaaGreatDoor
