/- What Atoi makes of digits. Nothing of the program; no condition. Atoi of any word. No condition but the size's. slices.Index among the codecs' names. No condition. -/
import Derived.Test.YtafhnlnhflehhaaGreatDoorGHa
import Derived.Lib.AtoiTie
import Derived.Test.YtafhnlnhflehhaaGreatDoorGHb
import Derived.Shelf.Strconv.AtoiAll
import Derived.Shelf.Strings.SplitShaped
namespace Go.Proofs.YtafhnlnhflehhaaGreatDoor
open Go.RowKit
theorem decFrom_app : ∀ (a b : BL) (acc : Nat) (n : Nat), Lib.decFrom acc a = some n → Lib.decFrom acc (a ++ b) = Lib.decFrom n b
 | [], b, acc, n, h => by
  have h' : acc = n := by simpa [Lib.decFrom] using h
  subst h'; rfl
 | x :: a, b, acc, n, h => by
  rw [List.cons_append, Lib.decFrom]
  rw [Lib.decFrom] at h
  cases hd : Lib.digitVal x with
  | none => rw [hd] at h; cases h
  | some d =>
   rw [hd] at h
   exact decFrom_app a b (acc * 10 + d) n h
theorem digit_of {k : Nat} (h : k < 10) : Lib.digitVal (UInt8.ofNat (48 + k)) = some k := by
 unfold Lib.digitVal
 rw [UInt8.toNat_ofNat', show (48 + k) % 2 ^ 8 = 48 + k by omega, if_pos (by omega)]
 congr 1; omega
theorem decFrom_dig : ∀ n : Nat, Lib.decFrom 0 (Lib.decDigits n) = some n := by
 intro n
 induction n using Nat.strongRecOn with
 | _ n ih =>
  rw [Lib.decDigits]
  split
  ·rename_i h
   rw [Lib.decFrom, digit_of h]
   show Lib.decFrom (0 * 10 + n) [] = _
   rw [Nat.zero_mul, Nat.zero_add]; rfl
  ·rw [decFrom_app _ _ 0 (n / 10) (ih (n / 10) (by omega)), Lib.decFrom, digit_of (Nat.mod_lt _ (by decide))]
   show Lib.decFrom (n / 10 * 10 + n % 10) [] = _
   rw [show n / 10 * 10 + n % 10 = n by omega]; rfl
theorem atoi_dig {n : Nat} (h : n ≤ 1048576) : Lib.atoiAll (Lib.decDigits n) = .ok (n : Int) := by
 rw [Lib.atoiAll_short _ (by have := dD_le h; omega)]
 cases hd : Lib.decDigits n with
 | nil => exact absurd hd (dig_ne n)
 | cons b r =>
  have hb := dig_mem n b (by rw [hd]; simp)
  have hf := decFrom_dig n
  rw [hd] at hf
  have e45 : (b == 45) = false := beq_eq_false_iff_ne.2 (fun e => by rw [e] at hb; exact absurd hb.1 (by decide))
  have e43 : (b == 43) = false := beq_eq_false_iff_ne.2 (fun e => by rw [e] at hb; exact absurd hb.1 (by decide))
  show Lib.NumEnd.ofOption (if b == 45 then (Lib.decNat r).map fun (m : Nat) => -(m : Int) else if b == 43 then (Lib.decNat r).map fun (m : Nat) => (m : Int) else (Lib.decNat (b :: r)).map fun (m : Nat) => (m : Int)) = _
  rw [e45, e43]
  simp only [Bool.false_eq_true, if_false]
  have hn : Lib.decNat (b :: r) = some n := by unfold Lib.decNat; simp [hf]
  rw [hn]
  rfl
end Go.Proofs.YtafhnlnhflehhaaGreatDoor

namespace Go.Proofs.YtafhnlnhflehhaaGreatDoor
open Go.RowKit Go.Shelf
def laysAtoi_ren : Go.Shelf.Ren := ⟨fun | 172 => 78 | 244 => 96 | 245 => 97 | 247 => 106 | 279 => 107 | 280 => 108 | 281 => 109 | 282 => 110 | 287 => 112 | 316 => 113 | 171 => 14 | 205 => 114 | 321 => 115 | 322 => 116 | 243 => 31 | 246 => 50 | 283 => 51 | 284 => 52 | 285 => 53 | 286 => 54 | 129 => 68 | 317 => 67 | 318 => 69 | 319 => 70 | 320 => 71 | 337 => 89 | 338 => 90 | n => n, fun | 9 => 9 | 3 => 3 | 75 => 78 | 76 => 79 | 4 => 4 | 5 => 5 | 167 => 143 | 37 => 73 | 0 => 0 | 85 => 144 | 2 => 2 | 168 => 146 | 53 => 47 | 175 => 152 | 46 => 106 | 210 => 156 | 127 => 98 | 145 => 161 | 143 => 159 | 21 => 21 | 171 => 93 | 173 => 96 | 212 => 110 | 51 => 38 | 20 => 20 | 213 => 111 | 232 => 135 | 233 => 136 | 80 => 81 | n => n, fun | 15 => 6 | 16 => 7 | 17 => 0 | 18 => 2 | 19 => 3 | n => n⟩
theorem laysAtoi : Go.Proofs.LaysC.n172 Tryz.prog laysAtoi_ren := {
 mixed := by kernel_rfl
 f129 := Tryz.func68.trans (congrArg some (by kernel_rfl))
 f171 := Tryz.func14.trans (congrArg some (by kernel_rfl))
 f172 := Tryz.func78.trans (congrArg some (by kernel_rfl))
 f205 := Tryz.func114.trans (congrArg some (by kernel_rfl))
 f243 := Tryz.func31.trans (congrArg some (by kernel_rfl))
 f244 := Tryz.func96.trans (congrArg some (by kernel_rfl))
 f245 := Tryz.func97.trans (congrArg some (by kernel_rfl))
 f246 := Tryz.func50.trans (congrArg some (by kernel_rfl))
 f247 := Tryz.func106.trans (congrArg some (by kernel_rfl))
 f279 := Tryz.func107.trans (congrArg some (by kernel_rfl))
 f280 := Tryz.func108.trans (congrArg some (by kernel_rfl))
 f281 := Tryz.func109.trans (congrArg some (by kernel_rfl))
 f282 := Tryz.func110.trans (congrArg some (by kernel_rfl))
 f283 := Tryz.func51.trans (congrArg some (by kernel_rfl))
 f284 := Tryz.func52.trans (congrArg some (by kernel_rfl))
 f285 := Tryz.func53.trans (congrArg some (by kernel_rfl))
 f286 := Tryz.func54.trans (congrArg some (by kernel_rfl))
 f287 := Tryz.func112.trans (congrArg some (by kernel_rfl))
 f316 := Tryz.func113.trans (congrArg some (by kernel_rfl))
 f317 := Tryz.func67.trans (congrArg some (by kernel_rfl))
 f318 := Tryz.func69.trans (congrArg some (by kernel_rfl))
 f319 := Tryz.func70.trans (congrArg some (by kernel_rfl))
 f320 := Tryz.func71.trans (congrArg some (by kernel_rfl))
 f321 := Tryz.func115.trans (congrArg some (by kernel_rfl))
 f322 := Tryz.func116.trans (congrArg some (by kernel_rfl))
 f337 := Tryz.func89.trans (congrArg some (by kernel_rfl))
 f338 := Tryz.func90.trans (congrArg some (by kernel_rfl))
 t0 := Tryz.underlying0
 a0 := Tryz.isAgg0
 z0 := Tryz.sizeOf0
 v0 := Tryz.zeroValue0
 t2 := Tryz.underlying2
 a2 := Tryz.isAgg2
 z2 := Tryz.sizeOf2
 v2 := Tryz.zeroValue2
 t3 := Tryz.underlying3
 a3 := Tryz.isAgg3
 z3 := Tryz.sizeOf3
 v3 := Tryz.zeroValue3
 t4 := Tryz.underlying4
 a4 := Tryz.isAgg4
 z4 := Tryz.sizeOf4
 v4 := Tryz.zeroValue4
 t5 := Tryz.underlying5
 a5 := Tryz.isAgg5
 z5 := Tryz.sizeOf5
 v5 := Tryz.zeroValue5
 t9 := Tryz.underlying9
 a9 := Tryz.isAgg9
 z9 := Tryz.sizeOf9
 v9 := Tryz.zeroValue9
 t20 := Tryz.underlying20
 a20 := Tryz.isAgg20
 z20 := Tryz.sizeOf20
 v20 := Tryz.zeroValue20
 t21 := Tryz.underlying21
 a21 := Tryz.isAgg21
 z21 := Tryz.sizeOf21
 v21 := Tryz.zeroValue21
 t37 := Tryz.underlying73
 a37 := Tryz.isAgg73
 z37 := Tryz.sizeOf73
 v37 := Tryz.zeroValue73
 t46 := Tryz.underlying106
 a46 := Tryz.isAgg106
 z46 := Tryz.sizeOf106
 v46 := Tryz.zeroValue106
 t51 := Tryz.underlying38
 a51 := Tryz.isAgg38
 z51 := Tryz.sizeOf38
 v51 := Tryz.zeroValue38
 t53 := Tryz.underlying47
 a53 := Tryz.isAgg47
 z53 := Tryz.sizeOf47
 v53 := Tryz.zeroValue47
 t75 := Tryz.underlying78
 a75 := Tryz.isAgg78
 z75 := Tryz.sizeOf78
 v75 := Tryz.zeroValue78
 t76 := Tryz.underlying79
 a76 := Tryz.isAgg79
 z76 := Tryz.sizeOf79
 v76 := Tryz.zeroValue79
 t85 := Tryz.underlying144
 a85 := Tryz.isAgg144
 z85 := Tryz.sizeOf144
 v85 := Tryz.zeroValue144
 t127 := Tryz.underlying98
 a127 := Tryz.isAgg98
 z127 := Tryz.sizeOf98
 v127 := Tryz.zeroValue98
 t143 := Tryz.underlying159
 a143 := Tryz.isAgg159
 z143 := Tryz.sizeOf159
 v143 := Tryz.zeroValue159
 t145 := Tryz.underlying161
 a145 := Tryz.isAgg161
 z145 := Tryz.sizeOf161
 v145 := Tryz.zeroValue161
 t167 := Tryz.underlying143
 a167 := Tryz.isAgg143
 z167 := Tryz.sizeOf143
 v167 := Tryz.zeroValue143
 t168 := Tryz.underlying146
 a168 := Tryz.isAgg146
 z168 := Tryz.sizeOf146
 v168 := Tryz.zeroValue146
 t171 := Tryz.underlying93
 a171 := Tryz.isAgg93
 z171 := Tryz.sizeOf93
 v171 := Tryz.zeroValue93
 t173 := Tryz.underlying96
 a173 := Tryz.isAgg96
 z173 := Tryz.sizeOf96
 v173 := Tryz.zeroValue96
 t175 := Tryz.underlying152
 a175 := Tryz.isAgg152
 z175 := Tryz.sizeOf152
 v175 := Tryz.zeroValue152
 t210 := Tryz.underlying156
 a210 := Tryz.isAgg156
 z210 := Tryz.sizeOf156
 v210 := Tryz.zeroValue156
 t212 := Tryz.underlying110
 a212 := Tryz.isAgg110
 z212 := Tryz.sizeOf110
 v212 := Tryz.zeroValue110
 t213 := Tryz.underlying111
 a213 := Tryz.isAgg111
 z213 := Tryz.sizeOf111
 t232 := Tryz.underlying135
 a232 := Tryz.isAgg135
 z232 := Tryz.sizeOf135
 v232 := Tryz.zeroValue135
 t233 := Tryz.underlying136
 a233 := Tryz.isAgg136
 z233 := Tryz.sizeOf136
 v233 := Tryz.zeroValue136
 g15 := by kernel_rfl
 g16 := by kernel_rfl
 g17 := by kernel_rfl
 g18 := by kernel_rfl
 g19 := by kernel_rfl
 t80 := Tryz.underlying81
 a80 := Tryz.isAgg81
 z80 := Tryz.sizeOf81
 v80 := Tryz.zeroValue81
 i0 := by kernel_rfl
 i2 := by kernel_rfl
 i3 := by kernel_rfl
 i4 := by kernel_rfl
 i5 := by kernel_rfl
 i9 := by kernel_rfl
 i20 := by kernel_rfl
 i21 := by kernel_rfl
 i37 := by kernel_rfl
 i46 := by kernel_rfl
 i51 := by kernel_rfl
 i53 := by kernel_rfl
 i75 := by kernel_rfl
 i76 := by kernel_rfl
 i80 := by kernel_rfl
 i85 := by kernel_rfl
 i127 := by kernel_rfl
 i143 := by kernel_rfl
 i145 := by kernel_rfl
 i167 := by kernel_rfl
 i168 := by kernel_rfl
 i171 := by kernel_rfl
 i173 := by kernel_rfl
 i175 := by kernel_rfl
 i210 := by kernel_rfl
 i212 := by kernel_rfl
 i232 := by kernel_rfl
 i233 := by kernel_rfl
 m15 := by kernel_rfl
 m16 := by kernel_rfl
 m17 := by kernel_rfl
 m18 := by kernel_rfl
 m19 := by kernel_rfl
 c0 := by kernel_rfl
 c2 := by kernel_rfl
 c3 := by kernel_rfl
 c4 := by kernel_rfl
 c5 := by kernel_rfl
 c9 := by kernel_rfl
 c20 := by kernel_rfl
 c21 := by kernel_rfl
 c37 := by kernel_rfl
 c46 := by kernel_rfl
 c51 := by kernel_rfl
 c53 := by kernel_rfl
 c75 := by kernel_rfl
 c76 := by kernel_rfl
 c80 := by kernel_rfl
 c85 := by kernel_rfl
 c127 := by kernel_rfl
 c143 := by kernel_rfl
 c145 := by kernel_rfl
 c167 := by kernel_rfl
 c168 := by kernel_rfl
 c171 := by kernel_rfl
 c173 := by kernel_rfl
 c175 := by kernel_rfl
 c210 := by kernel_rfl
 c212 := by kernel_rfl
 c213 := by kernel_rfl
 c232 := by kernel_rfl
 c233 := by kernel_rfl }
def laysSplit_ren : Go.Shelf.Ren := ⟨fun | 146 => 20 | 221 => 37 | 268 => 58 | 138 => 59 | 143 => 60 | 195 => 74 | 197 => 75 | 218 => 76 | 219 => 77 | 260 => 91 | 217 => 92 | 225 => 93 | 224 => 94 | 267 => 95 | 266 => 104 | 314 => 105 | n => n, fun | 9 => 9 | 31 => 45 | 3 => 3 | 4 => 4 | 0 => 0 | 105 => 115 | 21 => 21 | 5 => 5 | 46 => 106 | 119 => 137 | 139 => 140 | 138 => 139 | 146 => 141 | 51 => 38 | n => n, fun | 1 => 1 | 3 => 4 | 4 => 5 | n => n⟩
theorem laysSplit : Go.Proofs.LaysM.n146 Tryz.prog laysSplit_ren := {
 mixed := by kernel_rfl
 f138 := Tryz.func59.trans (congrArg some (by kernel_rfl))
 f143 := Tryz.func60.trans (congrArg some (by kernel_rfl))
 f146 := Tryz.func20.trans (congrArg some (by kernel_rfl))
 f195 := Tryz.func74.trans (congrArg some (by kernel_rfl))
 f197 := Tryz.func75.trans (congrArg some (by kernel_rfl))
 f217 := Tryz.func92.trans (congrArg some (by kernel_rfl))
 f218 := Tryz.func76.trans (congrArg some (by kernel_rfl))
 f219 := Tryz.func77.trans (congrArg some (by kernel_rfl))
 f221 := Tryz.func37.trans (congrArg some (by kernel_rfl))
 f224 := Tryz.func94.trans (congrArg some (by kernel_rfl))
 f225 := Tryz.func93.trans (congrArg some (by kernel_rfl))
 f260 := Tryz.func91.trans (congrArg some (by kernel_rfl))
 f266 := Tryz.func104.trans (congrArg some (by kernel_rfl))
 f267 := Tryz.func95.trans (congrArg some (by kernel_rfl))
 f268 := Tryz.func58.trans (congrArg some (by kernel_rfl))
 f314 := Tryz.func105.trans (congrArg some (by kernel_rfl))
 t0 := Tryz.underlying0
 a0 := Tryz.isAgg0
 z0 := Tryz.sizeOf0
 v0 := Tryz.zeroValue0
 t3 := Tryz.underlying3
 a3 := Tryz.isAgg3
 z3 := Tryz.sizeOf3
 v3 := Tryz.zeroValue3
 t4 := Tryz.underlying4
 a4 := Tryz.isAgg4
 z4 := Tryz.sizeOf4
 v4 := Tryz.zeroValue4
 t5 := Tryz.underlying5
 a5 := Tryz.isAgg5
 z5 := Tryz.sizeOf5
 v5 := Tryz.zeroValue5
 t9 := Tryz.underlying9
 a9 := Tryz.isAgg9
 z9 := Tryz.sizeOf9
 v9 := Tryz.zeroValue9
 t21 := Tryz.underlying21
 a21 := Tryz.isAgg21
 z21 := Tryz.sizeOf21
 v21 := Tryz.zeroValue21
 t31 := Tryz.underlying45
 a31 := Tryz.isAgg45
 z31 := Tryz.sizeOf45
 v31 := Tryz.zeroValue45
 t46 := Tryz.underlying106
 a46 := Tryz.isAgg106
 z46 := Tryz.sizeOf106
 v46 := Tryz.zeroValue106
 t51 := Tryz.underlying38
 a51 := Tryz.isAgg38
 z51 := Tryz.sizeOf38
 v51 := Tryz.zeroValue38
 t105 := Tryz.underlying115
 a105 := Tryz.isAgg115
 z105 := Tryz.sizeOf115
 v105 := Tryz.zeroValue115
 t119 := Tryz.underlying137
 a119 := Tryz.isAgg137
 z119 := Tryz.sizeOf137
 t138 := Tryz.underlying139
 a138 := Tryz.isAgg139
 z138 := Tryz.sizeOf139
 v138 := Tryz.zeroValue139
 t139 := Tryz.underlying140
 a139 := Tryz.isAgg140
 z139 := Tryz.sizeOf140
 v139 := Tryz.zeroValue140
 t146 := Tryz.underlying141
 a146 := Tryz.isAgg141
 z146 := Tryz.sizeOf141
 v146 := Tryz.zeroValue141
 g1 := by kernel_rfl
 g3 := by kernel_rfl
 g4 := by kernel_rfl
 i0 := by kernel_rfl
 i3 := by kernel_rfl
 i4 := by kernel_rfl
 i5 := by kernel_rfl
 i9 := by kernel_rfl
 i21 := by kernel_rfl
 i31 := by kernel_rfl
 i46 := by kernel_rfl
 i51 := by kernel_rfl
 i105 := by kernel_rfl
 i138 := by kernel_rfl
 i139 := by kernel_rfl
 i146 := by kernel_rfl
 m1 := by kernel_rfl
 s1_3 := fun w h => Go.Proofs.cell_of_shapedOpen_int (zero := #[.int .i64 0]) (t := 3) h (of_decide_eq_true (by kernel_rfl)) (by kernel_rfl) rfl (by kernel_rfl) (by kernel_rfl) Tryz.underlying3
 m3 := by kernel_rfl
 m4 := by kernel_rfl }
def ErrC (w : World) : Prop := ∃ e1 e2 : Value, w.cell? ⟨laysAtoi_ren.g 15, 0, none⟩ = some e1 ∧ (e1 = .nilIface ∨ ∃ te pe, e1 = .iface te pe) ∧ w.cell? ⟨laysAtoi_ren.g 16, 0, none⟩ = some e2 ∧ (e2 = .nilIface ∨ ∃ te pe, e2 = .iface te pe)
theorem ErrC.bw {w w' : World} (h : ErrC w) (hb : BW w w') : ErrC w' := by
 obtain ⟨e1, e2, h1, k1, h2, k2⟩ := h
 exact ⟨e1, e2, hb.cell h1, k1, hb.cell h2, k2⟩
theorem atoi_any (S : ByteArray) (hS : S.size ≤ 1000000) (w : World) (hE : ErrC w) :
  Calls Tryz.prog 78 #[.string S] w fun e w' => (∃ v : Int, (∀ n : Nat, n ≤ 1048576 → S.data.toList = Lib.decDigits n → v = n) ∧ (-9223372036854775808 ≤ v ∧ v ≤ 9223372036854775807) ∧ ((e = .returned (.tuple #[.int .i64 v, .nilIface])) ∨ ((∀ n : Nat, n ≤ 1048576 → S.data.toList ≠ Lib.decDigits n) ∧ ∃ t q, e = .returned (.tuple #[.int .i64 v, .iface t q])))) ∧ BW w w' := by
 obtain ⟨e1, e2, h1, k1, h2, k2⟩ := hE
 cases hr : Lib.atoiAll S.data.toList with
 | ok v =>
  have X := Any.strconv_Atoi_ok laysAtoi S (by omega) v hr w
  refine X.mono fun e w' ⟨he, hw⟩ => ⟨⟨v, fun n hn hd => ?_, Lib.atoiAll_bounds hr, .inl he⟩, ?_⟩
  ·rw [hd, atoi_dig hn] at hr
   injection hr with hr
   exact hr.symm
  ·rcases hw with rfl | ⟨t, rfl⟩
   ·exact BW.refl _
   ·exact Lib.bytesWorld_below _ _ _
 | range =>
  have X := Any.strconv_Atoi_range laysAtoi S (by omega) hr e2 w h2 k2
  have hno : ∀ n : Nat, n ≤ 1048576 → S.data.toList ≠ Lib.decDigits n := fun n hn hd => by rw [hd, atoi_dig hn] at hr; cases hr
  refine X.mono fun e w' ⟨N, he, _, _, hb⟩ => ⟨⟨_, fun n hn hd => absurd hd (hno n hn), Lib.atoiSat_bounds _, .inr ⟨hno, _, _, he⟩⟩, hb⟩
 | _ =>
  have X := Any.strconv_Atoi_syntax laysAtoi S (by omega) hr e1 w h1 k1
  have hno : ∀ n : Nat, n ≤ 1048576 → S.data.toList ≠ Lib.decDigits n := fun n hn hd => by rw [hd, atoi_dig hn] at hr; cases hr
  refine X.mono fun e w' ⟨N, he, _, _, hb⟩ => ⟨⟨0, fun n hn hd => absurd hd (hno n hn), by decide, .inr ⟨hno, _, _, he⟩⟩, hb⟩
end Go.Proofs.YtafhnlnhflehhaaGreatDoor

namespace Go.Proofs.YtafhnlnhflehhaaGreatDoor
open Go.RowKit
theorem ba_beqI {x y : ByteArray} (h : x = y) : (x.toList == y.toList) = true := by rw [h]; exact beq_self_eq_true _
theorem ba_bneI {x y : ByteArray} (h : x ≠ y) : (x.toList == y.toList) = false := beq_eq_false_iff_ne.2 (fun e => h (ba_ext (by rw [← ByteArray.toList_eq, ← ByteArray.toList_eq, e])))
theorem bS_inj {x y : BL} (h : bS x = bS y) : x = y := by rw [← bS_list x, h, bS_list]
def cidx (x : BL) : Int := if x = codT 0 then 0 else if x = codT 1 then 1 else if x = codT 2 then 2 else -1
theorem cidx_of {x : BL} {c : Int} (hc : 0 ≤ c ∧ c < 3) (h : x = codT c) : cidx x = c := by
 have : c = 0 ∨ c = 1 ∨ c = 2 := by omega
 rcases this with rfl | rfl | rfl <;> subst h <;> decide
theorem cidx_ok {x : BL} (h : 0 ≤ cidx x) : cidx x < 3 ∧ x = codT (cidx x) := by
 unfold cidx at *
 by_cases h0 : x = codT 0
 ·rw [if_pos h0]; exact ⟨by decide, h0⟩
 ·rw [if_neg h0] at h ⊢
  by_cases h1 : x = codT 1
  ·rw [if_pos h1]; exact ⟨by decide, h1⟩
  ·rw [if_neg h1] at h ⊢
   by_cases h2 : x = codT 2
   ·rw [if_pos h2]; exact ⟨by decide, h2⟩
   ·rw [if_neg h2] at h
    exact absurd h (by decide)
set_option maxRecDepth 100000 in
set_option maxHeartbeats 8000000 in
theorem cindex_any (x : BL) (g : Nat) (w : World) (h : ∀ i : Nat, i < 3 → w.cell? ⟨g, i, none⟩ = some (.string (bS (codT (i : Nat))))) :
  Calls Tryz.prog 62 #[.slice (some ⟨g, 0, none⟩) 3 3, .string (bS x)] w fun e w' => e = .returned (.int .i64 (cidx x)) ∧ BW w w' := by
 obtain ⟨r, hr⟩ : ∃ r, cidx x = r := ⟨_, rfl⟩
 rw [hr]
 replace hr := Lib.hid hr
 have hC := Lib.hid h
 clear h
 obtain ⟨bx, hbx⟩ : ∃ b, bS x = b := ⟨_, rfl⟩
 rw [hbx]
 have hA : Hid (∀ j : Nat, j < 0 → x ≠ codT (j : Nat)) := Lib.hid (fun j hj => absurd hj (Nat.not_lt_zero _))
 go_enter Tryz.func62, Tryz.ntmps62
 go_upto_region 2 with (fail)
 go_loopg [8] 3 (fun m' v8 wx => ∃ i : Nat, m' = 3 - i ∧ i ≤ 3 ∧ v8 = .int .i64 (i : Nat) ∧ Hid (∀ j : Nat, j < i → x ≠ codT (j : Nat)) ∧ wx = w)
 case atStart => exact ⟨0, rfl, by decide, rfl, hA, rfl⟩
 case round =>
  clear hA
  obtain ⟨i, rfl, hi, rfl, hA, rfl⟩ := hrel
  by_cases hi3 : i < 3
  ·have d1 : decide ((i : Int) < 3) = true := by simp; omega
   have z := hC.out i hi3
   obtain ⟨bc, hbc⟩ : ∃ b, bS (codT (i : Nat)) = b := ⟨_, rfl⟩
   rw [hbc] at z
   by_cases hx : x = codT (i : Nat)
   ·have d2 : (bx.toList == bc.toList) = true := ba_beqI (by rw [← hbx, ← hbc, hx])
    have hri : Hid (r = (i : Nat)) := Lib.hid (by rw [← hr.out]; exact cidx_of (by omega) hx)
    clear hbx hbc
    replace hx := Lib.hid hx
    go_wp2_with fail
    go_ret
    exact ⟨by rw [hri.out]; rfl, BW.refl _⟩
   ·have d2 : (bx.toList == bc.toList) = false := ba_bneI (fun e => hx (bS_inj (by rw [hbx, hbc, e])))
    have hA2 : Hid (∀ j : Nat, j < i + 1 → x ≠ codT (j : Nat)) := Lib.hid (fun j hj => by
     by_cases e : j < i
     ·exact hA.out j e
     ·obtain rfl : j = i := by omega
      exact hx)
    clear hbc
    replace hx := Lib.hid hx
    replace hbx := Lib.hid hbx
    go_wp2_with fail
    go_roundg (3 - (i + 1))
    case measure => omega
    case rel => exact ⟨i + 1, rfl, by omega, by first | rfl | (push_cast; rfl), hA2, rfl⟩
  ·obtain rfl : i = 3 := by omega
   have hri : Hid (r = -1) := Lib.hid (by
    rw [← hr.out]
    unfold cidx
    rw [if_neg (show x ≠ codT 0 from hA.out 0 (by decide)), if_neg (show x ≠ codT 1 from hA.out 1 (by decide)), if_neg (show x ≠ codT 2 from hA.out 2 (by decide))])
   go_wp2_with fail
   go_ret
   exact ⟨by rw [hri.out]; rfl, BW.refl _⟩
end Go.Proofs.YtafhnlnhflehhaaGreatDoor
