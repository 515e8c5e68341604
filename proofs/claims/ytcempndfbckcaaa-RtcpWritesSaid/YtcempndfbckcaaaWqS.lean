/- The reference's One: what its switch lays for each kind of packet. No condition but the sizes'. -/
import Derived.Test.YtcempndfbckcaaaWqC
import Derived.Test.YtcempndfbckcaaaGX6
namespace Go.Proofs.Ytcempndfbckcaaa
open Go.RowKit
theorem put1 (x : Nat) (h : x < 256) : putB 1 x = [x] := by
 simp [putB, List.range_succ]
 omega
theorem put_fir (x : Nat) : putB 4 (x * 16777216) = putB 1 x ++ putB 3 0 := by
 have h := putB_split 3 x 0 (by decide) 1
 rw [Nat.add_zero] at h
 have e : x * 16777216 = x * 256 ^ 3 := by rw [show (256 : Nat) ^ 3 = 16777216 by decide]
 rw [e]
 generalize x * 256 ^ 3 = y at *
 exact h
theorem put_lost (x : Int) (h : -8388608 ≤ x) : putB 3 (lostU x) = putB 3 (x + 16777216).toNat := by
 rw [← putB_mod 3 (lostU x), ← putB_mod 3 (x + 16777216).toNat]
 congr 1
 unfold lostU
 omega
theorem may_len {c : Ctl} (h : mayC c = true) : isKind c.k = true ∧ (c.k = 200 ∨ c.k = 201 → c.nams.length = 0 ∧ c.srcs.length = 0) ∧ (c.k = 202 → c.reps.length = 0 ∧ c.srcs.length = 0) ∧ (c.k = 203 → c.reps.length = 0 ∧ c.nams.length = 0) ∧ (c.k = 1 ∨ c.k = 2 ∨ c.k = 3 → c.reps.length = 0 ∧ c.nams.length = 0 ∧ c.srcs.length = 0) ∧ (c.k = 4 → c.reps.length = 0 ∧ c.nams.length = 0 ∧ c.srcs.length ≤ 16) ∧ c.reps.any badR = false ∧ c.nams.any badN = false := by
 obtain ⟨k, s, m, t, st, pk, oc, reps, nams, srcs, loss, firs, rt⟩ := c
 have hk : isKind k = true := by
  unfold isKind
  refine decide_eq_true ?_
  refine Decidable.byContradiction fun hno => ?_
  unfold mayC at h
  dsimp only at h
  repeat (rw [if_neg (by omega)] at h)
  cases h
 unfold mayC at h
 dsimp only at h ⊢
 refine ⟨hk, ?_⟩
 rcases isKind_cases hk with rfl | rfl | rfl | rfl | rfl | rfl | rfl | rfl
 all_goals
  simp only [Int.reduceEq, if_true, if_false, Bool.and_eq_true, Bool.not_eq_true', decide_eq_true_eq] at h
  refine ⟨fun q => ?_, fun q => ?_, fun q => ?_, fun q => ?_, fun q => ?_, h.1.2, h.1.1.2⟩ <;> first | omega | (exact absurd q (by decide))
def blockOf (n : Nat) : Code → Option Code
 | .block m c => if m = n then some (.block m c) else blockOf n c
 | .seq a b => match blockOf n a with
  | some c => some c
  | none => blockOf n b
 | .loop c => blockOf n c
 | .scope c => blockOf n c
 | .cond _ a b => match blockOf n a with
  | some c => some c
  | none => blockOf n b
 | _ => none
noncomputable def oneSw : Code := (Try.f88.body.bind (blockOf 0)).getD .skip
set_option maxRecDepth 100000 in
set_option maxHeartbeats 8000000 in
theorem sw_200 {K : Act → World → Prop} {Q : Exit → Act → World → Prop} (s m t st pk oc rt : Nat) (ar an as_ al af : Option Addr) (nr nn ns nl nf cr cn cs cl_ cf : Nat) (reps : List Rep) (nams : List (Nat × List Nat)) (srcs : List Nat) (loss firs : List (Nat × Nat)) (mn ex q gp n0 cb : Nat) (sb : Option Addr) (L0 : List Nat) (hd : Nat × Nat) (bw : List Nat) (l1 : Hid (reps.length = nr)) (l2 : Hid (nams.length = nn)) (l3 : Hid (srcs.length = ns)) (l4 : Hid (loss.length = nl)) (l5 : Hid (firs.length = nf)) (b2 : s < 4294967296) (b3 : m < 4294967296) (b4 : t < 18446744073709551616) (b5 : st < 4294967296) (b6 : pk < 4294967296) (b7 : oc < 4294967296) (b12 : Hid (∀ p ∈ loss, p.1 < 65536 ∧ p.2 < 65536)) (b13 : Hid (∀ p ∈ firs, p.1 < 4294967296 ∧ p.2 < 256)) (q1 : nr ≤ 100) (q2 : nn ≤ 100) (q3 : ns ≤ 100) (q4 : nl ≤ 100) (q5 : nf ≤ 100) (hml : (mn : Int) ≤ 262143) (hel : (ex : Int) ≤ 46) (hql : Hid (q < 18446744073709551616)) (hq : Hid (ex * 262144 + mn = q)) (hRB : Hid (rembB s rt srcs = (((wordsB [s, 0] ++ [82, 69, 77, 66]) ++ putB 1 srcs.length) ++ putB 3 q) ++ wordsB srcs)) (e1 : Hid ((200 : Int) = 200 ∨ (200 : Int) = 201 → nn = 0 ∧ ns = 0)) (e2 : Hid ((200 : Int) = 202 → nr = 0 ∧ ns = 0)) (e3 : Hid ((200 : Int) = 203 → nr = 0 ∧ nn = 0)) (e4 : Hid ((200 : Int) = 1 ∨ (200 : Int) = 2 ∨ (200 : Int) = 3 → nr = 0 ∧ nn = 0 ∧ ns = 0)) (e5 : Hid ((200 : Int) = 4 → nr = 0 ∧ nn = 0 ∧ ns ≤ 16)) (hHd : Hid (hdrW ⟨(200 : Int), s, m, t, st, pk, oc, reps, nams, srcs, loss, firs, rt⟩ = hd)) (hBw : Hid (bodyW ⟨(200 : Int), s, m, t, st, pk, oc, reps, nams, srcs, loss, firs, rt⟩ = bw)) (hL0 : Hid ((if (200 : Int) = 202 ∨ (200 : Int) = 203 then [] else putB 4 s) = L0)) (hn0 : n0 ≤ 4) (hm0 : n0 % 4 = 0) (hc0 : n0 ≤ cb) (hc1 : cb ≤ 9223372036854775807) (w1 w3 : World) (r4 : Hid (SQ EO w1 0 (.slice al nl cl_) nl loss)) (r5 : Hid (SQ EF w1 0 (.slice af nf cf) nf firs)) (P : Hid (HpB w1 gp (.cells #[.int .i64 (200 : Int), .int .u32 (s : Nat), .int .u32 (m : Nat), .int .u64 (t : Nat), .int .u32 (st : Nat), .int .u32 (pk : Nat), .int .u32 (oc : Nat), .slice ar nr cr, .slice an nn cn, .slice as_ ns cs, .slice al nl cl_, .slice af nf cf, .int .u64 (rt : Nat)] 111))) (O : Hid (OB w3 w1.heap.size 5 (.slice sb n0 cb) n0 L0)) (B : Hid (BW w1 w3)) (u0 u4 u5 u6 u10 u11 u12 u13 u14 u15 u16 u17 u18 u19 u20 u21 u22 u23 u24 u25 u26 u27 u28 u29 u30 u31 u32 u33 u34 u35 u36 u37 u38 u39 u40 u41 u42 u44 u45 u46 u47 u48 u49 u50 u51 u52 u53 u54 u55 u56 u57 u58 u59 u60 u61 u62 u63 u64 u65 u66 u67 u68 u69 u70 u71 u72 u73 u74 u75 u76 u77 u78 u79 u80 u81 u82 u83 u84 u85 u86 u87 u88 u89 u90 u91 u92 u93 u94 u95 u96 u97 u98 u99 u100 u101 u102 u103 u104 u105 u106 u107 u108 u109 u110 u111 u112 u113 u114 u115 u116 u117 u118 u119 u120 u121 u122 u123 u124 u125 u126 u127 u128 u129 u130 u131 u132 u133 u134 u135 u136 u137 u138 u139 u140 u141 u142 u143 u144 u145 u146 u147 u148 u149 u150 u151 u152 u153 u154 u155 u156 u157 u158 u159 u160 u161 u162 u163 u164 u165 u166 u167 u168 u169 u170 u171 u172 u173 u174 u175 u176 u177 u178 u179 u180 u181 u182 u183 u184 u185 u186 u187 u188 u189 u190 u191 u192 u193 u194 u195 u196 u197 u198 u199 u200 u201 u202 u203 u204 u205 u206 u207 u208 u209 u210 u211 u212 u213 u214 u215 u216 u217 u218 u219 u220 u221 u222 u223 u224 u225 u226 u227 u228 u229 u230 u231 u232 u233 u234 u235 u236 u237 u238 u239 u240 u241 u242 u243 u244 u245 u246 u247 u248 u249 u250 u251 u252 u253 u254 u255 u256 u257 u258 u259 u260 u261 u262 u263 u264 : Value) (hK : Hid (∀ (L : List Nat) (sb' : Option Addr) (cb' n typ cnt : Nat) {y10 y11 y44 y45 y46 y47 y48 y49 y50 y51 y52 y53 y54 y55 y56 y57 y58 y59 y60 y61 y62 y63 y64 y65 y66 y67 y68 y69 y70 y71 y72 y73 y74 y75 y76 y77 y78 y79 y80 y81 y82 y83 y84 y85 y86 y87 y88 y89 y90 y91 y92 y93 y94 y95 y96 y97 y98 y99 y100 y101 y102 y103 y104 y105 y106 y107 y108 y109 y110 y111 y112 y113 y114 y115 y116 y117 y118 y119 y120 y121 y122 y123 y124 y125 y126 y127 y128 y129 y130 y131 y132 y133 y134 y135 y136 y137 y138 y139 y140 y141 y142 y143 y144 y145 y146 vt vc : Value} {wc : World}, vt = .int .i64 (typ : Nat) → vc = .int .i64 (cnt : Nat) → n ≤ cb' → cb' ≤ 9223372036854775807 → n ≤ 900 → n % 4 = 0 → hd = (typ, cnt) → bw = ((L ++ repsB reps) ++ namsB nams) ++ wordsB srcs → OB wc w1.heap.size 5 (.slice sb' n cb') n L → BW w1 wc → K ⟨#[u0, .int .u64 (mn : Nat), .int .i64 (ex : Nat), .pointer (some ⟨gp, 0, none⟩), u4, u5, u6, .slice sb' n cb', vt, vc, y10, y11, u12, u13, u14, u15, u16, u17, u18, u19, u20, u21, u22, u23, u24, u25, u26, u27, u28, u29, u30, u31, u32, u33, u34, u35, u36, u37, u38, u39, u40, u41, u42, .int .i64 200, y44, y45, y46, y47, y48, y49, y50, y51, y52, y53, y54, y55, y56, y57, y58, y59, y60, y61, y62, y63, y64, y65, y66, y67, y68, y69, y70, y71, y72, y73, y74, y75, y76, y77, y78, y79, y80, y81, y82, y83, y84, y85, y86, y87, y88, y89, y90, y91, y92, y93, y94, y95, y96, y97, y98, y99, y100, y101, y102, y103, y104, y105, y106, y107, y108, y109, y110, y111, y112, y113, y114, y115, y116, y117, y118, y119, y120, y121, y122, y123, y124, y125, y126, y127, y128, y129, y130, y131, y132, y133, y134, y135, y136, y137, y138, y139, y140, y141, y142, y143, y144, y145, y146, u147, u148, u149, u150, u151, u152, u153, u154, u155, u156, u157, u158, u159, u160, u161, u162, u163, u164, u165, u166, u167, u168, u169, u170, u171, u172, u173, u174, u175, u176, u177, u178, u179, u180, u181, u182, u183, u184, u185, u186, u187, u188, u189, u190, u191, u192, u193, u194, u195, u196, u197, u198, u199, u200, u201, u202, u203, u204, u205, u206, u207, u208, u209, u210, u211, u212, u213, u214, u215, u216, u217, u218, u219, u220, u221, u222, u223, u224, u225, u226, u227, u228, u229, u230, u231, u232, u233, u234, u235, u236, u237, u238, u239, u240, u241, u242, u243, u244, u245, u246, u247, u248, u249, u250, u251, u252, u253, u254, u255, u256, u257, u258, u259, u260, u261, u262, u263, u264], []⟩ wc)) :
  Code.wp Try.prog oneSw (Exit.then K Q) ⟨#[u0, .int .u64 (mn : Nat), .int .i64 (ex : Nat), .pointer (some ⟨gp, 0, none⟩), u4, u5, u6, .slice sb n0 cb, .int .i64 200, .int .i64 ((nr : Int) + (nn : Int) + (ns : Int)), u10, u11, u12, u13, u14, u15, u16, u17, u18, u19, u20, u21, u22, u23, u24, u25, u26, u27, u28, u29, u30, u31, u32, u33, u34, u35, u36, u37, u38, u39, u40, u41, u42, .int .i64 200, u44, u45, u46, u47, u48, u49, u50, u51, u52, u53, u54, u55, u56, u57, u58, u59, u60, u61, u62, u63, u64, u65, u66, u67, u68, u69, u70, u71, u72, u73, u74, u75, u76, u77, u78, u79, u80, u81, u82, u83, u84, u85, u86, u87, u88, u89, u90, u91, u92, u93, u94, u95, u96, u97, u98, u99, u100, u101, u102, u103, u104, u105, u106, u107, u108, u109, u110, u111, u112, u113, u114, u115, u116, u117, u118, u119, u120, u121, u122, u123, u124, u125, u126, u127, u128, u129, u130, u131, u132, u133, u134, u135, u136, u137, u138, u139, u140, u141, u142, u143, u144, u145, u146, u147, u148, u149, u150, u151, u152, u153, u154, u155, u156, u157, u158, u159, u160, u161, u162, u163, u164, u165, u166, u167, u168, u169, u170, u171, u172, u173, u174, u175, u176, u177, u178, u179, u180, u181, u182, u183, u184, u185, u186, u187, u188, u189, u190, u191, u192, u193, u194, u195, u196, u197, u198, u199, u200, u201, u202, u203, u204, u205, u206, u207, u208, u209, u210, u211, u212, u213, u214, u215, u216, u217, u218, u219, u220, u221, u222, u223, u224, u225, u226, u227, u228, u229, u230, u231, u232, u233, u234, u235, u236, u237, u238, u239, u240, u241, u242, u243, u244, u245, u246, u247, u248, u249, u250, u251, u252, u253, u254, u255, u256, u257, u258, u259, u260, u261, u262, u263, u264], []⟩ w3 := by
 conv => arg 2; whnf
 obtain ⟨z1, z2⟩ := e1.out (.inl rfl)
 obtain rfl : nams = [] := List.eq_nil_of_length_eq_zero (by rw [l2.out]; exact z1)
 obtain rfl : srcs = [] := List.eq_nil_of_length_eq_zero (by rw [l3.out]; exact z2)
 subst z1
 subst z2
 have hL := hL0.out
 rw [if_neg (by decide)] at hL
 subst hL
 have m3 : ∀ y : LaterS [] w3, y.now.cell? ⟨gp, 3, none⟩ = some (.int .u64 (t : Nat)) := fun y => (hp_cell (P.out.bw (B.out.trans y.bw)) 3).trans rfl
 have m4 : ∀ y : LaterS [] w3, y.now.cell? ⟨gp, 4, none⟩ = some (.int .u32 (st : Nat)) := fun y => (hp_cell (P.out.bw (B.out.trans y.bw)) 4).trans rfl
 have m5 : ∀ y : LaterS [] w3, y.now.cell? ⟨gp, 5, none⟩ = some (.int .u32 (pk : Nat)) := fun y => (hp_cell (P.out.bw (B.out.trans y.bw)) 5).trans rfl
 have m6 : ∀ y : LaterS [] w3, y.now.cell? ⟨gp, 6, none⟩ = some (.int .u32 (oc : Nat)) := fun y => (hp_cell (P.out.bw (B.out.trans y.bw)) 6).trans rfl
 go_upto_region 7 with (fail)
 refine wp_region_gg [] [] [16] (by kernel_rfl) ?_
 refine hoist [] [] (a1 := ?_) 0 rfl (by kernel_rfl) (.inl ⟨rfl, rfl⟩) rfl rfl rfl (fun x K hK => ?_) ?_
 rotate_left
 ·go_big_quiet_op
  exact hK
 refine hoist [] [] (a1 := ?_) 1 rfl (by kernel_rfl) (.inl ⟨rfl, rfl⟩) rfl rfl rfl (fun x K hK => ?_) ?_
 rotate_left
 ·go_big_quiet_op
  exact hK
 refine hoist [] [] (a1 := ?_) 2 rfl (by kernel_rfl) (.inl ⟨rfl, rfl⟩) rfl rfl rfl (fun x K hK => ?_) ?_
 rotate_left
 ·go_big_quiet_op
  exact hK
 refine hoist [] [] (a1 := ?_) 4 rfl (by kernel_rfl) (.inl ⟨rfl, rfl⟩) rfl rfl rfl (fun x K hK => ?_) ?_
 rotate_left
 ·go_big_quiet_op
  exact hK
 refine hoist [] [] (a1 := ?_) 5 rfl (by kernel_rfl) (.inl ⟨rfl, rfl⟩) rfl rfl rfl (fun x K hK => ?_) ?_
 rotate_left
 ·go_big_quiet_op
  exact hK
 refine hoist [] [] (a1 := ?_) 6 rfl (by kernel_rfl) (.inl ⟨rfl, rfl⟩) rfl rfl rfl (fun x K hK => ?_) ?_
 rotate_left
 ·go_big_quiet_op
  exact hK
 refine hoist [] [] (a1 := ?_) 8 rfl (by kernel_rfl) (.inl ⟨rfl, rfl⟩) rfl rfl rfl (fun x K hK => ?_) ?_
 rotate_left
 ·go_big_quiet_op
  exact hK
 refine hoist [] [] (a1 := ?_) 9 rfl (by kernel_rfl) (.inl ⟨rfl, rfl⟩) rfl rfl rfl (fun x K hK => ?_) ?_
 rotate_left
 ·go_big_quiet_op
  exact hK
 refine hoist [] [] (a1 := ?_) 10 rfl (by kernel_rfl) (.inl ⟨rfl, rfl⟩) rfl rfl rfl (fun x K hK => ?_) ?_
 rotate_left
 ·go_big_quiet_op
  exact hK
 refine hoist [] [] (a1 := ?_) 12 rfl (by kernel_rfl) (.inl ⟨rfl, rfl⟩) rfl rfl rfl (fun x K hK => ?_) ?_
 rotate_left
 ·go_big_quiet_op
  exact hK
 refine hoist [] [] (a1 := ?_) 13 rfl (by kernel_rfl) (.inl ⟨rfl, rfl⟩) rfl rfl rfl (fun x K hK => ?_) ?_
 rotate_left
 ·go_big_quiet_op
  exact hK
 refine hoist [] [] (a1 := ?_) 14 rfl (by kernel_rfl) (.inl ⟨rfl, rfl⟩) rfl rfl rfl (fun x K hK => ?_) ?_
 rotate_left
 ·go_big_quiet_op
  exact hK
 refine effect 3 rfl (by kernel_rfl) (by kernel_rfl) rfl (fun x3 K hK => ?_)
 go_simp
 have hx0 := x3.bw
 have hz0 := (B.out.trans hx0).size
 refine Calls.mono (rpw_ok _ (n0) (putB 4 s) 8 (t) 8 (by decide) (by decide) rfl (by omega) (by omega) x3.now (O.out.bw hx0).sb) ?_
 rintro e w'3 ⟨s3, c3, rfl, hc3, O1, hb⟩
 refine hK _ _ (hb.still _) ?_
 clear hK K
 replace B := Lib.hid ((B.out.trans hx0).trans hb)
 replace O := Lib.hid (O1.up hz0)
 try replace BX5 := Lib.hid ((BX5.out.trans hx0).trans hb)
 clear hx0 hz0 O1 hb
 try simp only [Act.put, List.setIfInBounds_toArray, List.set_cons_succ, List.set_cons_zero]
 refine effect 7 rfl (by kernel_rfl) (by kernel_rfl) rfl (fun x7 K hK => ?_)
 go_simp
 have hx0 := x7.bw
 have hz0 := (B.out.trans hx0).size
 refine Calls.mono (rpw_ok _ (n0 + 8) (putB 4 s ++ putB 8 t) 4 (st) 4 (by decide) (by decide) rfl (by omega) (by omega) x7.now (O.out.bw hx0).sb) ?_
 rintro e w'7 ⟨s7, c7, rfl, hc7, O1, hb⟩
 refine hK _ _ (hb.still _) ?_
 clear hK K
 replace B := Lib.hid ((B.out.trans hx0).trans hb)
 replace O := Lib.hid (O1.up hz0)
 try replace BX5 := Lib.hid ((BX5.out.trans hx0).trans hb)
 clear hx0 hz0 O1 hb
 try simp only [Act.put, List.setIfInBounds_toArray, List.set_cons_succ, List.set_cons_zero]
 refine effect 11 rfl (by kernel_rfl) (by kernel_rfl) rfl (fun x11 K hK => ?_)
 go_simp
 have hx0 := x11.bw
 have hz0 := (B.out.trans hx0).size
 refine Calls.mono (rpw_ok _ (n0 + 8 + 4) ((putB 4 s ++ putB 8 t) ++ putB 4 st) 4 (pk) 4 (by decide) (by decide) rfl (by omega) (by omega) x11.now (O.out.bw hx0).sb) ?_
 rintro e w'11 ⟨s11, c11, rfl, hc11, O1, hb⟩
 refine hK _ _ (hb.still _) ?_
 clear hK K
 replace B := Lib.hid ((B.out.trans hx0).trans hb)
 replace O := Lib.hid (O1.up hz0)
 try replace BX5 := Lib.hid ((BX5.out.trans hx0).trans hb)
 clear hx0 hz0 O1 hb
 try simp only [Act.put, List.setIfInBounds_toArray, List.set_cons_succ, List.set_cons_zero]
 refine effect 15 rfl (by kernel_rfl) (by kernel_rfl) rfl (fun x15 K hK => ?_)
 go_simp
 have hx0 := x15.bw
 have hz0 := (B.out.trans hx0).size
 refine Calls.mono (rpw_ok _ (n0 + 8 + 4 + 4) (((putB 4 s ++ putB 8 t) ++ putB 4 st) ++ putB 4 pk) 4 (oc) 4 (by decide) (by decide) rfl (by omega) (by omega) x15.now (O.out.bw hx0).sb) ?_
 rintro e w'15 ⟨s15, c15, rfl, hc15, O1, hb⟩
 refine hK _ _ (hb.still _) ?_
 clear hK K
 replace B := Lib.hid ((B.out.trans hx0).trans hb)
 replace O := Lib.hid (O1.up hz0)
 try replace BX5 := Lib.hid ((BX5.out.trans hx0).trans hb)
 clear hx0 hz0 O1 hb
 try simp only [Act.put, List.setIfInBounds_toArray, List.set_cons_succ, List.set_cons_zero]
 refine tail 16 rfl (by kernel_rfl) rfl (fun xr => ?_)
 simp only [List.drop_succ_cons, List.drop_zero]
 replace B := Lib.hid (B.out.trans xr.bw)
 replace O := Lib.hid (O.out.bw xr.bw)
 clear m3 m4 m5 m6
 go_wp2_with fail
 refine hK.out _ s15 c15 (n0 + 8 + 4 + 4 + 4) 200 nr rfl (congrArg _ (by simp)) hc15.1 hc15.2 (by omega) (by omega) ?_ ?_ O.out B.out
 ·show _ = _
  rw [← hHd.out]
  simp [hdrW, l1.out]
 ·show _ = _
  rw [← hBw.out]
  simp [bodyW, wordsB, namsB, List.append_assoc]
set_option maxRecDepth 100000 in
set_option maxHeartbeats 8000000 in
theorem sw_201 {K : Act → World → Prop} {Q : Exit → Act → World → Prop} (s m t st pk oc rt : Nat) (ar an as_ al af : Option Addr) (nr nn ns nl nf cr cn cs cl_ cf : Nat) (reps : List Rep) (nams : List (Nat × List Nat)) (srcs : List Nat) (loss firs : List (Nat × Nat)) (mn ex q gp n0 cb : Nat) (sb : Option Addr) (L0 : List Nat) (hd : Nat × Nat) (bw : List Nat) (l1 : Hid (reps.length = nr)) (l2 : Hid (nams.length = nn)) (l3 : Hid (srcs.length = ns)) (l4 : Hid (loss.length = nl)) (l5 : Hid (firs.length = nf)) (b2 : s < 4294967296) (b3 : m < 4294967296) (b4 : t < 18446744073709551616) (b5 : st < 4294967296) (b6 : pk < 4294967296) (b7 : oc < 4294967296) (b12 : Hid (∀ p ∈ loss, p.1 < 65536 ∧ p.2 < 65536)) (b13 : Hid (∀ p ∈ firs, p.1 < 4294967296 ∧ p.2 < 256)) (q1 : nr ≤ 100) (q2 : nn ≤ 100) (q3 : ns ≤ 100) (q4 : nl ≤ 100) (q5 : nf ≤ 100) (hml : (mn : Int) ≤ 262143) (hel : (ex : Int) ≤ 46) (hql : Hid (q < 18446744073709551616)) (hq : Hid (ex * 262144 + mn = q)) (hRB : Hid (rembB s rt srcs = (((wordsB [s, 0] ++ [82, 69, 77, 66]) ++ putB 1 srcs.length) ++ putB 3 q) ++ wordsB srcs)) (e1 : Hid ((201 : Int) = 200 ∨ (201 : Int) = 201 → nn = 0 ∧ ns = 0)) (e2 : Hid ((201 : Int) = 202 → nr = 0 ∧ ns = 0)) (e3 : Hid ((201 : Int) = 203 → nr = 0 ∧ nn = 0)) (e4 : Hid ((201 : Int) = 1 ∨ (201 : Int) = 2 ∨ (201 : Int) = 3 → nr = 0 ∧ nn = 0 ∧ ns = 0)) (e5 : Hid ((201 : Int) = 4 → nr = 0 ∧ nn = 0 ∧ ns ≤ 16)) (hHd : Hid (hdrW ⟨(201 : Int), s, m, t, st, pk, oc, reps, nams, srcs, loss, firs, rt⟩ = hd)) (hBw : Hid (bodyW ⟨(201 : Int), s, m, t, st, pk, oc, reps, nams, srcs, loss, firs, rt⟩ = bw)) (hL0 : Hid ((if (201 : Int) = 202 ∨ (201 : Int) = 203 then [] else putB 4 s) = L0)) (hn0 : n0 ≤ 4) (hm0 : n0 % 4 = 0) (hc0 : n0 ≤ cb) (hc1 : cb ≤ 9223372036854775807) (w1 w3 : World) (r4 : Hid (SQ EO w1 0 (.slice al nl cl_) nl loss)) (r5 : Hid (SQ EF w1 0 (.slice af nf cf) nf firs)) (P : Hid (HpB w1 gp (.cells #[.int .i64 (201 : Int), .int .u32 (s : Nat), .int .u32 (m : Nat), .int .u64 (t : Nat), .int .u32 (st : Nat), .int .u32 (pk : Nat), .int .u32 (oc : Nat), .slice ar nr cr, .slice an nn cn, .slice as_ ns cs, .slice al nl cl_, .slice af nf cf, .int .u64 (rt : Nat)] 111))) (O : Hid (OB w3 w1.heap.size 5 (.slice sb n0 cb) n0 L0)) (B : Hid (BW w1 w3)) (u0 u4 u5 u6 u10 u11 u12 u13 u14 u15 u16 u17 u18 u19 u20 u21 u22 u23 u24 u25 u26 u27 u28 u29 u30 u31 u32 u33 u34 u35 u36 u37 u38 u39 u40 u41 u42 u44 u45 u46 u47 u48 u49 u50 u51 u52 u53 u54 u55 u56 u57 u58 u59 u60 u61 u62 u63 u64 u65 u66 u67 u68 u69 u70 u71 u72 u73 u74 u75 u76 u77 u78 u79 u80 u81 u82 u83 u84 u85 u86 u87 u88 u89 u90 u91 u92 u93 u94 u95 u96 u97 u98 u99 u100 u101 u102 u103 u104 u105 u106 u107 u108 u109 u110 u111 u112 u113 u114 u115 u116 u117 u118 u119 u120 u121 u122 u123 u124 u125 u126 u127 u128 u129 u130 u131 u132 u133 u134 u135 u136 u137 u138 u139 u140 u141 u142 u143 u144 u145 u146 u147 u148 u149 u150 u151 u152 u153 u154 u155 u156 u157 u158 u159 u160 u161 u162 u163 u164 u165 u166 u167 u168 u169 u170 u171 u172 u173 u174 u175 u176 u177 u178 u179 u180 u181 u182 u183 u184 u185 u186 u187 u188 u189 u190 u191 u192 u193 u194 u195 u196 u197 u198 u199 u200 u201 u202 u203 u204 u205 u206 u207 u208 u209 u210 u211 u212 u213 u214 u215 u216 u217 u218 u219 u220 u221 u222 u223 u224 u225 u226 u227 u228 u229 u230 u231 u232 u233 u234 u235 u236 u237 u238 u239 u240 u241 u242 u243 u244 u245 u246 u247 u248 u249 u250 u251 u252 u253 u254 u255 u256 u257 u258 u259 u260 u261 u262 u263 u264 : Value) (hK : Hid (∀ (L : List Nat) (sb' : Option Addr) (cb' n typ cnt : Nat) {y10 y11 y44 y45 y46 y47 y48 y49 y50 y51 y52 y53 y54 y55 y56 y57 y58 y59 y60 y61 y62 y63 y64 y65 y66 y67 y68 y69 y70 y71 y72 y73 y74 y75 y76 y77 y78 y79 y80 y81 y82 y83 y84 y85 y86 y87 y88 y89 y90 y91 y92 y93 y94 y95 y96 y97 y98 y99 y100 y101 y102 y103 y104 y105 y106 y107 y108 y109 y110 y111 y112 y113 y114 y115 y116 y117 y118 y119 y120 y121 y122 y123 y124 y125 y126 y127 y128 y129 y130 y131 y132 y133 y134 y135 y136 y137 y138 y139 y140 y141 y142 y143 y144 y145 y146 vt vc : Value} {wc : World}, vt = .int .i64 (typ : Nat) → vc = .int .i64 (cnt : Nat) → n ≤ cb' → cb' ≤ 9223372036854775807 → n ≤ 900 → n % 4 = 0 → hd = (typ, cnt) → bw = ((L ++ repsB reps) ++ namsB nams) ++ wordsB srcs → OB wc w1.heap.size 5 (.slice sb' n cb') n L → BW w1 wc → K ⟨#[u0, .int .u64 (mn : Nat), .int .i64 (ex : Nat), .pointer (some ⟨gp, 0, none⟩), u4, u5, u6, .slice sb' n cb', vt, vc, y10, y11, u12, u13, u14, u15, u16, u17, u18, u19, u20, u21, u22, u23, u24, u25, u26, u27, u28, u29, u30, u31, u32, u33, u34, u35, u36, u37, u38, u39, u40, u41, u42, .int .i64 201, y44, y45, y46, y47, y48, y49, y50, y51, y52, y53, y54, y55, y56, y57, y58, y59, y60, y61, y62, y63, y64, y65, y66, y67, y68, y69, y70, y71, y72, y73, y74, y75, y76, y77, y78, y79, y80, y81, y82, y83, y84, y85, y86, y87, y88, y89, y90, y91, y92, y93, y94, y95, y96, y97, y98, y99, y100, y101, y102, y103, y104, y105, y106, y107, y108, y109, y110, y111, y112, y113, y114, y115, y116, y117, y118, y119, y120, y121, y122, y123, y124, y125, y126, y127, y128, y129, y130, y131, y132, y133, y134, y135, y136, y137, y138, y139, y140, y141, y142, y143, y144, y145, y146, u147, u148, u149, u150, u151, u152, u153, u154, u155, u156, u157, u158, u159, u160, u161, u162, u163, u164, u165, u166, u167, u168, u169, u170, u171, u172, u173, u174, u175, u176, u177, u178, u179, u180, u181, u182, u183, u184, u185, u186, u187, u188, u189, u190, u191, u192, u193, u194, u195, u196, u197, u198, u199, u200, u201, u202, u203, u204, u205, u206, u207, u208, u209, u210, u211, u212, u213, u214, u215, u216, u217, u218, u219, u220, u221, u222, u223, u224, u225, u226, u227, u228, u229, u230, u231, u232, u233, u234, u235, u236, u237, u238, u239, u240, u241, u242, u243, u244, u245, u246, u247, u248, u249, u250, u251, u252, u253, u254, u255, u256, u257, u258, u259, u260, u261, u262, u263, u264], []⟩ wc)) :
  Code.wp Try.prog oneSw (Exit.then K Q) ⟨#[u0, .int .u64 (mn : Nat), .int .i64 (ex : Nat), .pointer (some ⟨gp, 0, none⟩), u4, u5, u6, .slice sb n0 cb, .int .i64 201, .int .i64 ((nr : Int) + (nn : Int) + (ns : Int)), u10, u11, u12, u13, u14, u15, u16, u17, u18, u19, u20, u21, u22, u23, u24, u25, u26, u27, u28, u29, u30, u31, u32, u33, u34, u35, u36, u37, u38, u39, u40, u41, u42, .int .i64 201, u44, u45, u46, u47, u48, u49, u50, u51, u52, u53, u54, u55, u56, u57, u58, u59, u60, u61, u62, u63, u64, u65, u66, u67, u68, u69, u70, u71, u72, u73, u74, u75, u76, u77, u78, u79, u80, u81, u82, u83, u84, u85, u86, u87, u88, u89, u90, u91, u92, u93, u94, u95, u96, u97, u98, u99, u100, u101, u102, u103, u104, u105, u106, u107, u108, u109, u110, u111, u112, u113, u114, u115, u116, u117, u118, u119, u120, u121, u122, u123, u124, u125, u126, u127, u128, u129, u130, u131, u132, u133, u134, u135, u136, u137, u138, u139, u140, u141, u142, u143, u144, u145, u146, u147, u148, u149, u150, u151, u152, u153, u154, u155, u156, u157, u158, u159, u160, u161, u162, u163, u164, u165, u166, u167, u168, u169, u170, u171, u172, u173, u174, u175, u176, u177, u178, u179, u180, u181, u182, u183, u184, u185, u186, u187, u188, u189, u190, u191, u192, u193, u194, u195, u196, u197, u198, u199, u200, u201, u202, u203, u204, u205, u206, u207, u208, u209, u210, u211, u212, u213, u214, u215, u216, u217, u218, u219, u220, u221, u222, u223, u224, u225, u226, u227, u228, u229, u230, u231, u232, u233, u234, u235, u236, u237, u238, u239, u240, u241, u242, u243, u244, u245, u246, u247, u248, u249, u250, u251, u252, u253, u254, u255, u256, u257, u258, u259, u260, u261, u262, u263, u264], []⟩ w3 := by
 conv => arg 2; whnf
 obtain ⟨z1, z2⟩ := e1.out (.inr rfl)
 obtain rfl : nams = [] := List.eq_nil_of_length_eq_zero (by rw [l2.out]; exact z1)
 obtain rfl : srcs = [] := List.eq_nil_of_length_eq_zero (by rw [l3.out]; exact z2)
 subst z1
 subst z2
 have hL := hL0.out
 rw [if_neg (by decide)] at hL
 subst hL
 go_wp2_with fail
 refine hK.out _ sb cb n0 201 nr rfl (congrArg _ (by simp)) hc0 hc1 (by omega) (by omega) ?_ ?_ O.out B.out
 ·show _ = _
  rw [← hHd.out]
  simp [hdrW, l1.out]
 ·show _ = _
  rw [← hBw.out]
  simp [bodyW, wordsB, namsB]
set_option maxRecDepth 100000 in
set_option maxHeartbeats 8000000 in
theorem sw_202 {K : Act → World → Prop} {Q : Exit → Act → World → Prop} (s m t st pk oc rt : Nat) (ar an as_ al af : Option Addr) (nr nn ns nl nf cr cn cs cl_ cf : Nat) (reps : List Rep) (nams : List (Nat × List Nat)) (srcs : List Nat) (loss firs : List (Nat × Nat)) (mn ex q gp n0 cb : Nat) (sb : Option Addr) (L0 : List Nat) (hd : Nat × Nat) (bw : List Nat) (l1 : Hid (reps.length = nr)) (l2 : Hid (nams.length = nn)) (l3 : Hid (srcs.length = ns)) (l4 : Hid (loss.length = nl)) (l5 : Hid (firs.length = nf)) (b2 : s < 4294967296) (b3 : m < 4294967296) (b4 : t < 18446744073709551616) (b5 : st < 4294967296) (b6 : pk < 4294967296) (b7 : oc < 4294967296) (b12 : Hid (∀ p ∈ loss, p.1 < 65536 ∧ p.2 < 65536)) (b13 : Hid (∀ p ∈ firs, p.1 < 4294967296 ∧ p.2 < 256)) (q1 : nr ≤ 100) (q2 : nn ≤ 100) (q3 : ns ≤ 100) (q4 : nl ≤ 100) (q5 : nf ≤ 100) (hml : (mn : Int) ≤ 262143) (hel : (ex : Int) ≤ 46) (hql : Hid (q < 18446744073709551616)) (hq : Hid (ex * 262144 + mn = q)) (hRB : Hid (rembB s rt srcs = (((wordsB [s, 0] ++ [82, 69, 77, 66]) ++ putB 1 srcs.length) ++ putB 3 q) ++ wordsB srcs)) (e1 : Hid ((202 : Int) = 200 ∨ (202 : Int) = 201 → nn = 0 ∧ ns = 0)) (e2 : Hid ((202 : Int) = 202 → nr = 0 ∧ ns = 0)) (e3 : Hid ((202 : Int) = 203 → nr = 0 ∧ nn = 0)) (e4 : Hid ((202 : Int) = 1 ∨ (202 : Int) = 2 ∨ (202 : Int) = 3 → nr = 0 ∧ nn = 0 ∧ ns = 0)) (e5 : Hid ((202 : Int) = 4 → nr = 0 ∧ nn = 0 ∧ ns ≤ 16)) (hHd : Hid (hdrW ⟨(202 : Int), s, m, t, st, pk, oc, reps, nams, srcs, loss, firs, rt⟩ = hd)) (hBw : Hid (bodyW ⟨(202 : Int), s, m, t, st, pk, oc, reps, nams, srcs, loss, firs, rt⟩ = bw)) (hL0 : Hid ((if (202 : Int) = 202 ∨ (202 : Int) = 203 then [] else putB 4 s) = L0)) (hn0 : n0 ≤ 4) (hm0 : n0 % 4 = 0) (hc0 : n0 ≤ cb) (hc1 : cb ≤ 9223372036854775807) (w1 w3 : World) (r4 : Hid (SQ EO w1 0 (.slice al nl cl_) nl loss)) (r5 : Hid (SQ EF w1 0 (.slice af nf cf) nf firs)) (P : Hid (HpB w1 gp (.cells #[.int .i64 (202 : Int), .int .u32 (s : Nat), .int .u32 (m : Nat), .int .u64 (t : Nat), .int .u32 (st : Nat), .int .u32 (pk : Nat), .int .u32 (oc : Nat), .slice ar nr cr, .slice an nn cn, .slice as_ ns cs, .slice al nl cl_, .slice af nf cf, .int .u64 (rt : Nat)] 111))) (O : Hid (OB w3 w1.heap.size 5 (.slice sb n0 cb) n0 L0)) (B : Hid (BW w1 w3)) (u0 u4 u5 u6 u10 u11 u12 u13 u14 u15 u16 u17 u18 u19 u20 u21 u22 u23 u24 u25 u26 u27 u28 u29 u30 u31 u32 u33 u34 u35 u36 u37 u38 u39 u40 u41 u42 u44 u45 u46 u47 u48 u49 u50 u51 u52 u53 u54 u55 u56 u57 u58 u59 u60 u61 u62 u63 u64 u65 u66 u67 u68 u69 u70 u71 u72 u73 u74 u75 u76 u77 u78 u79 u80 u81 u82 u83 u84 u85 u86 u87 u88 u89 u90 u91 u92 u93 u94 u95 u96 u97 u98 u99 u100 u101 u102 u103 u104 u105 u106 u107 u108 u109 u110 u111 u112 u113 u114 u115 u116 u117 u118 u119 u120 u121 u122 u123 u124 u125 u126 u127 u128 u129 u130 u131 u132 u133 u134 u135 u136 u137 u138 u139 u140 u141 u142 u143 u144 u145 u146 u147 u148 u149 u150 u151 u152 u153 u154 u155 u156 u157 u158 u159 u160 u161 u162 u163 u164 u165 u166 u167 u168 u169 u170 u171 u172 u173 u174 u175 u176 u177 u178 u179 u180 u181 u182 u183 u184 u185 u186 u187 u188 u189 u190 u191 u192 u193 u194 u195 u196 u197 u198 u199 u200 u201 u202 u203 u204 u205 u206 u207 u208 u209 u210 u211 u212 u213 u214 u215 u216 u217 u218 u219 u220 u221 u222 u223 u224 u225 u226 u227 u228 u229 u230 u231 u232 u233 u234 u235 u236 u237 u238 u239 u240 u241 u242 u243 u244 u245 u246 u247 u248 u249 u250 u251 u252 u253 u254 u255 u256 u257 u258 u259 u260 u261 u262 u263 u264 : Value) (hK : Hid (∀ (L : List Nat) (sb' : Option Addr) (cb' n typ cnt : Nat) {y10 y11 y44 y45 y46 y47 y48 y49 y50 y51 y52 y53 y54 y55 y56 y57 y58 y59 y60 y61 y62 y63 y64 y65 y66 y67 y68 y69 y70 y71 y72 y73 y74 y75 y76 y77 y78 y79 y80 y81 y82 y83 y84 y85 y86 y87 y88 y89 y90 y91 y92 y93 y94 y95 y96 y97 y98 y99 y100 y101 y102 y103 y104 y105 y106 y107 y108 y109 y110 y111 y112 y113 y114 y115 y116 y117 y118 y119 y120 y121 y122 y123 y124 y125 y126 y127 y128 y129 y130 y131 y132 y133 y134 y135 y136 y137 y138 y139 y140 y141 y142 y143 y144 y145 y146 vt vc : Value} {wc : World}, vt = .int .i64 (typ : Nat) → vc = .int .i64 (cnt : Nat) → n ≤ cb' → cb' ≤ 9223372036854775807 → n ≤ 900 → n % 4 = 0 → hd = (typ, cnt) → bw = ((L ++ repsB reps) ++ namsB nams) ++ wordsB srcs → OB wc w1.heap.size 5 (.slice sb' n cb') n L → BW w1 wc → K ⟨#[u0, .int .u64 (mn : Nat), .int .i64 (ex : Nat), .pointer (some ⟨gp, 0, none⟩), u4, u5, u6, .slice sb' n cb', vt, vc, y10, y11, u12, u13, u14, u15, u16, u17, u18, u19, u20, u21, u22, u23, u24, u25, u26, u27, u28, u29, u30, u31, u32, u33, u34, u35, u36, u37, u38, u39, u40, u41, u42, .int .i64 202, y44, y45, y46, y47, y48, y49, y50, y51, y52, y53, y54, y55, y56, y57, y58, y59, y60, y61, y62, y63, y64, y65, y66, y67, y68, y69, y70, y71, y72, y73, y74, y75, y76, y77, y78, y79, y80, y81, y82, y83, y84, y85, y86, y87, y88, y89, y90, y91, y92, y93, y94, y95, y96, y97, y98, y99, y100, y101, y102, y103, y104, y105, y106, y107, y108, y109, y110, y111, y112, y113, y114, y115, y116, y117, y118, y119, y120, y121, y122, y123, y124, y125, y126, y127, y128, y129, y130, y131, y132, y133, y134, y135, y136, y137, y138, y139, y140, y141, y142, y143, y144, y145, y146, u147, u148, u149, u150, u151, u152, u153, u154, u155, u156, u157, u158, u159, u160, u161, u162, u163, u164, u165, u166, u167, u168, u169, u170, u171, u172, u173, u174, u175, u176, u177, u178, u179, u180, u181, u182, u183, u184, u185, u186, u187, u188, u189, u190, u191, u192, u193, u194, u195, u196, u197, u198, u199, u200, u201, u202, u203, u204, u205, u206, u207, u208, u209, u210, u211, u212, u213, u214, u215, u216, u217, u218, u219, u220, u221, u222, u223, u224, u225, u226, u227, u228, u229, u230, u231, u232, u233, u234, u235, u236, u237, u238, u239, u240, u241, u242, u243, u244, u245, u246, u247, u248, u249, u250, u251, u252, u253, u254, u255, u256, u257, u258, u259, u260, u261, u262, u263, u264], []⟩ wc)) :
  Code.wp Try.prog oneSw (Exit.then K Q) ⟨#[u0, .int .u64 (mn : Nat), .int .i64 (ex : Nat), .pointer (some ⟨gp, 0, none⟩), u4, u5, u6, .slice sb n0 cb, .int .i64 202, .int .i64 ((nr : Int) + (nn : Int) + (ns : Int)), u10, u11, u12, u13, u14, u15, u16, u17, u18, u19, u20, u21, u22, u23, u24, u25, u26, u27, u28, u29, u30, u31, u32, u33, u34, u35, u36, u37, u38, u39, u40, u41, u42, .int .i64 202, u44, u45, u46, u47, u48, u49, u50, u51, u52, u53, u54, u55, u56, u57, u58, u59, u60, u61, u62, u63, u64, u65, u66, u67, u68, u69, u70, u71, u72, u73, u74, u75, u76, u77, u78, u79, u80, u81, u82, u83, u84, u85, u86, u87, u88, u89, u90, u91, u92, u93, u94, u95, u96, u97, u98, u99, u100, u101, u102, u103, u104, u105, u106, u107, u108, u109, u110, u111, u112, u113, u114, u115, u116, u117, u118, u119, u120, u121, u122, u123, u124, u125, u126, u127, u128, u129, u130, u131, u132, u133, u134, u135, u136, u137, u138, u139, u140, u141, u142, u143, u144, u145, u146, u147, u148, u149, u150, u151, u152, u153, u154, u155, u156, u157, u158, u159, u160, u161, u162, u163, u164, u165, u166, u167, u168, u169, u170, u171, u172, u173, u174, u175, u176, u177, u178, u179, u180, u181, u182, u183, u184, u185, u186, u187, u188, u189, u190, u191, u192, u193, u194, u195, u196, u197, u198, u199, u200, u201, u202, u203, u204, u205, u206, u207, u208, u209, u210, u211, u212, u213, u214, u215, u216, u217, u218, u219, u220, u221, u222, u223, u224, u225, u226, u227, u228, u229, u230, u231, u232, u233, u234, u235, u236, u237, u238, u239, u240, u241, u242, u243, u244, u245, u246, u247, u248, u249, u250, u251, u252, u253, u254, u255, u256, u257, u258, u259, u260, u261, u262, u263, u264], []⟩ w3 := by
 conv => arg 2; whnf
 obtain ⟨z1, z2⟩ := e2.out rfl
 obtain rfl : reps = [] := List.eq_nil_of_length_eq_zero (by rw [l1.out]; exact z1)
 obtain rfl : srcs = [] := List.eq_nil_of_length_eq_zero (by rw [l3.out]; exact z2)
 subst z1
 subst z2
 have hL := hL0.out
 rw [if_pos (by decide)] at hL
 subst hL
 go_wp2_with fail
 refine hK.out _ sb cb n0 202 nn rfl (congrArg _ (by simp)) hc0 hc1 (by omega) (by omega) ?_ ?_ O.out B.out
 ·show _ = _
  rw [← hHd.out]
  simp [hdrW, l2.out]
 ·show _ = _
  rw [← hBw.out]
  simp [bodyW, wordsB, repsB]
set_option maxRecDepth 100000 in
set_option maxHeartbeats 8000000 in
theorem sw_203 {K : Act → World → Prop} {Q : Exit → Act → World → Prop} (s m t st pk oc rt : Nat) (ar an as_ al af : Option Addr) (nr nn ns nl nf cr cn cs cl_ cf : Nat) (reps : List Rep) (nams : List (Nat × List Nat)) (srcs : List Nat) (loss firs : List (Nat × Nat)) (mn ex q gp n0 cb : Nat) (sb : Option Addr) (L0 : List Nat) (hd : Nat × Nat) (bw : List Nat) (l1 : Hid (reps.length = nr)) (l2 : Hid (nams.length = nn)) (l3 : Hid (srcs.length = ns)) (l4 : Hid (loss.length = nl)) (l5 : Hid (firs.length = nf)) (b2 : s < 4294967296) (b3 : m < 4294967296) (b4 : t < 18446744073709551616) (b5 : st < 4294967296) (b6 : pk < 4294967296) (b7 : oc < 4294967296) (b12 : Hid (∀ p ∈ loss, p.1 < 65536 ∧ p.2 < 65536)) (b13 : Hid (∀ p ∈ firs, p.1 < 4294967296 ∧ p.2 < 256)) (q1 : nr ≤ 100) (q2 : nn ≤ 100) (q3 : ns ≤ 100) (q4 : nl ≤ 100) (q5 : nf ≤ 100) (hml : (mn : Int) ≤ 262143) (hel : (ex : Int) ≤ 46) (hql : Hid (q < 18446744073709551616)) (hq : Hid (ex * 262144 + mn = q)) (hRB : Hid (rembB s rt srcs = (((wordsB [s, 0] ++ [82, 69, 77, 66]) ++ putB 1 srcs.length) ++ putB 3 q) ++ wordsB srcs)) (e1 : Hid ((203 : Int) = 200 ∨ (203 : Int) = 201 → nn = 0 ∧ ns = 0)) (e2 : Hid ((203 : Int) = 202 → nr = 0 ∧ ns = 0)) (e3 : Hid ((203 : Int) = 203 → nr = 0 ∧ nn = 0)) (e4 : Hid ((203 : Int) = 1 ∨ (203 : Int) = 2 ∨ (203 : Int) = 3 → nr = 0 ∧ nn = 0 ∧ ns = 0)) (e5 : Hid ((203 : Int) = 4 → nr = 0 ∧ nn = 0 ∧ ns ≤ 16)) (hHd : Hid (hdrW ⟨(203 : Int), s, m, t, st, pk, oc, reps, nams, srcs, loss, firs, rt⟩ = hd)) (hBw : Hid (bodyW ⟨(203 : Int), s, m, t, st, pk, oc, reps, nams, srcs, loss, firs, rt⟩ = bw)) (hL0 : Hid ((if (203 : Int) = 202 ∨ (203 : Int) = 203 then [] else putB 4 s) = L0)) (hn0 : n0 ≤ 4) (hm0 : n0 % 4 = 0) (hc0 : n0 ≤ cb) (hc1 : cb ≤ 9223372036854775807) (w1 w3 : World) (r4 : Hid (SQ EO w1 0 (.slice al nl cl_) nl loss)) (r5 : Hid (SQ EF w1 0 (.slice af nf cf) nf firs)) (P : Hid (HpB w1 gp (.cells #[.int .i64 (203 : Int), .int .u32 (s : Nat), .int .u32 (m : Nat), .int .u64 (t : Nat), .int .u32 (st : Nat), .int .u32 (pk : Nat), .int .u32 (oc : Nat), .slice ar nr cr, .slice an nn cn, .slice as_ ns cs, .slice al nl cl_, .slice af nf cf, .int .u64 (rt : Nat)] 111))) (O : Hid (OB w3 w1.heap.size 5 (.slice sb n0 cb) n0 L0)) (B : Hid (BW w1 w3)) (u0 u4 u5 u6 u10 u11 u12 u13 u14 u15 u16 u17 u18 u19 u20 u21 u22 u23 u24 u25 u26 u27 u28 u29 u30 u31 u32 u33 u34 u35 u36 u37 u38 u39 u40 u41 u42 u44 u45 u46 u47 u48 u49 u50 u51 u52 u53 u54 u55 u56 u57 u58 u59 u60 u61 u62 u63 u64 u65 u66 u67 u68 u69 u70 u71 u72 u73 u74 u75 u76 u77 u78 u79 u80 u81 u82 u83 u84 u85 u86 u87 u88 u89 u90 u91 u92 u93 u94 u95 u96 u97 u98 u99 u100 u101 u102 u103 u104 u105 u106 u107 u108 u109 u110 u111 u112 u113 u114 u115 u116 u117 u118 u119 u120 u121 u122 u123 u124 u125 u126 u127 u128 u129 u130 u131 u132 u133 u134 u135 u136 u137 u138 u139 u140 u141 u142 u143 u144 u145 u146 u147 u148 u149 u150 u151 u152 u153 u154 u155 u156 u157 u158 u159 u160 u161 u162 u163 u164 u165 u166 u167 u168 u169 u170 u171 u172 u173 u174 u175 u176 u177 u178 u179 u180 u181 u182 u183 u184 u185 u186 u187 u188 u189 u190 u191 u192 u193 u194 u195 u196 u197 u198 u199 u200 u201 u202 u203 u204 u205 u206 u207 u208 u209 u210 u211 u212 u213 u214 u215 u216 u217 u218 u219 u220 u221 u222 u223 u224 u225 u226 u227 u228 u229 u230 u231 u232 u233 u234 u235 u236 u237 u238 u239 u240 u241 u242 u243 u244 u245 u246 u247 u248 u249 u250 u251 u252 u253 u254 u255 u256 u257 u258 u259 u260 u261 u262 u263 u264 : Value) (hK : Hid (∀ (L : List Nat) (sb' : Option Addr) (cb' n typ cnt : Nat) {y10 y11 y44 y45 y46 y47 y48 y49 y50 y51 y52 y53 y54 y55 y56 y57 y58 y59 y60 y61 y62 y63 y64 y65 y66 y67 y68 y69 y70 y71 y72 y73 y74 y75 y76 y77 y78 y79 y80 y81 y82 y83 y84 y85 y86 y87 y88 y89 y90 y91 y92 y93 y94 y95 y96 y97 y98 y99 y100 y101 y102 y103 y104 y105 y106 y107 y108 y109 y110 y111 y112 y113 y114 y115 y116 y117 y118 y119 y120 y121 y122 y123 y124 y125 y126 y127 y128 y129 y130 y131 y132 y133 y134 y135 y136 y137 y138 y139 y140 y141 y142 y143 y144 y145 y146 vt vc : Value} {wc : World}, vt = .int .i64 (typ : Nat) → vc = .int .i64 (cnt : Nat) → n ≤ cb' → cb' ≤ 9223372036854775807 → n ≤ 900 → n % 4 = 0 → hd = (typ, cnt) → bw = ((L ++ repsB reps) ++ namsB nams) ++ wordsB srcs → OB wc w1.heap.size 5 (.slice sb' n cb') n L → BW w1 wc → K ⟨#[u0, .int .u64 (mn : Nat), .int .i64 (ex : Nat), .pointer (some ⟨gp, 0, none⟩), u4, u5, u6, .slice sb' n cb', vt, vc, y10, y11, u12, u13, u14, u15, u16, u17, u18, u19, u20, u21, u22, u23, u24, u25, u26, u27, u28, u29, u30, u31, u32, u33, u34, u35, u36, u37, u38, u39, u40, u41, u42, .int .i64 203, y44, y45, y46, y47, y48, y49, y50, y51, y52, y53, y54, y55, y56, y57, y58, y59, y60, y61, y62, y63, y64, y65, y66, y67, y68, y69, y70, y71, y72, y73, y74, y75, y76, y77, y78, y79, y80, y81, y82, y83, y84, y85, y86, y87, y88, y89, y90, y91, y92, y93, y94, y95, y96, y97, y98, y99, y100, y101, y102, y103, y104, y105, y106, y107, y108, y109, y110, y111, y112, y113, y114, y115, y116, y117, y118, y119, y120, y121, y122, y123, y124, y125, y126, y127, y128, y129, y130, y131, y132, y133, y134, y135, y136, y137, y138, y139, y140, y141, y142, y143, y144, y145, y146, u147, u148, u149, u150, u151, u152, u153, u154, u155, u156, u157, u158, u159, u160, u161, u162, u163, u164, u165, u166, u167, u168, u169, u170, u171, u172, u173, u174, u175, u176, u177, u178, u179, u180, u181, u182, u183, u184, u185, u186, u187, u188, u189, u190, u191, u192, u193, u194, u195, u196, u197, u198, u199, u200, u201, u202, u203, u204, u205, u206, u207, u208, u209, u210, u211, u212, u213, u214, u215, u216, u217, u218, u219, u220, u221, u222, u223, u224, u225, u226, u227, u228, u229, u230, u231, u232, u233, u234, u235, u236, u237, u238, u239, u240, u241, u242, u243, u244, u245, u246, u247, u248, u249, u250, u251, u252, u253, u254, u255, u256, u257, u258, u259, u260, u261, u262, u263, u264], []⟩ wc)) :
  Code.wp Try.prog oneSw (Exit.then K Q) ⟨#[u0, .int .u64 (mn : Nat), .int .i64 (ex : Nat), .pointer (some ⟨gp, 0, none⟩), u4, u5, u6, .slice sb n0 cb, .int .i64 203, .int .i64 ((nr : Int) + (nn : Int) + (ns : Int)), u10, u11, u12, u13, u14, u15, u16, u17, u18, u19, u20, u21, u22, u23, u24, u25, u26, u27, u28, u29, u30, u31, u32, u33, u34, u35, u36, u37, u38, u39, u40, u41, u42, .int .i64 203, u44, u45, u46, u47, u48, u49, u50, u51, u52, u53, u54, u55, u56, u57, u58, u59, u60, u61, u62, u63, u64, u65, u66, u67, u68, u69, u70, u71, u72, u73, u74, u75, u76, u77, u78, u79, u80, u81, u82, u83, u84, u85, u86, u87, u88, u89, u90, u91, u92, u93, u94, u95, u96, u97, u98, u99, u100, u101, u102, u103, u104, u105, u106, u107, u108, u109, u110, u111, u112, u113, u114, u115, u116, u117, u118, u119, u120, u121, u122, u123, u124, u125, u126, u127, u128, u129, u130, u131, u132, u133, u134, u135, u136, u137, u138, u139, u140, u141, u142, u143, u144, u145, u146, u147, u148, u149, u150, u151, u152, u153, u154, u155, u156, u157, u158, u159, u160, u161, u162, u163, u164, u165, u166, u167, u168, u169, u170, u171, u172, u173, u174, u175, u176, u177, u178, u179, u180, u181, u182, u183, u184, u185, u186, u187, u188, u189, u190, u191, u192, u193, u194, u195, u196, u197, u198, u199, u200, u201, u202, u203, u204, u205, u206, u207, u208, u209, u210, u211, u212, u213, u214, u215, u216, u217, u218, u219, u220, u221, u222, u223, u224, u225, u226, u227, u228, u229, u230, u231, u232, u233, u234, u235, u236, u237, u238, u239, u240, u241, u242, u243, u244, u245, u246, u247, u248, u249, u250, u251, u252, u253, u254, u255, u256, u257, u258, u259, u260, u261, u262, u263, u264], []⟩ w3 := by
 conv => arg 2; whnf
 obtain ⟨z1, z2⟩ := e3.out rfl
 obtain rfl : reps = [] := List.eq_nil_of_length_eq_zero (by rw [l1.out]; exact z1)
 obtain rfl : nams = [] := List.eq_nil_of_length_eq_zero (by rw [l2.out]; exact z2)
 subst z1
 subst z2
 have hL := hL0.out
 rw [if_pos (by decide)] at hL
 subst hL
 go_wp2_with fail
 refine hK.out _ sb cb n0 203 ns rfl (congrArg _ (by simp)) hc0 hc1 (by omega) (by omega) ?_ ?_ O.out B.out
 ·show _ = _
  rw [← hHd.out]
  simp [hdrW, l3.out]
 ·show _ = _
  rw [← hBw.out]
  simp [bodyW, namsB, repsB]
set_option maxRecDepth 100000 in
set_option maxHeartbeats 8000000 in
theorem sw_1 {K : Act → World → Prop} {Q : Exit → Act → World → Prop} (s m t st pk oc rt : Nat) (ar an as_ al af : Option Addr) (nr nn ns nl nf cr cn cs cl_ cf : Nat) (reps : List Rep) (nams : List (Nat × List Nat)) (srcs : List Nat) (loss firs : List (Nat × Nat)) (mn ex q gp n0 cb : Nat) (sb : Option Addr) (L0 : List Nat) (hd : Nat × Nat) (bw : List Nat) (l1 : Hid (reps.length = nr)) (l2 : Hid (nams.length = nn)) (l3 : Hid (srcs.length = ns)) (l4 : Hid (loss.length = nl)) (l5 : Hid (firs.length = nf)) (b2 : s < 4294967296) (b3 : m < 4294967296) (b4 : t < 18446744073709551616) (b5 : st < 4294967296) (b6 : pk < 4294967296) (b7 : oc < 4294967296) (b12 : Hid (∀ p ∈ loss, p.1 < 65536 ∧ p.2 < 65536)) (b13 : Hid (∀ p ∈ firs, p.1 < 4294967296 ∧ p.2 < 256)) (q1 : nr ≤ 100) (q2 : nn ≤ 100) (q3 : ns ≤ 100) (q4 : nl ≤ 100) (q5 : nf ≤ 100) (hml : (mn : Int) ≤ 262143) (hel : (ex : Int) ≤ 46) (hql : Hid (q < 18446744073709551616)) (hq : Hid (ex * 262144 + mn = q)) (hRB : Hid (rembB s rt srcs = (((wordsB [s, 0] ++ [82, 69, 77, 66]) ++ putB 1 srcs.length) ++ putB 3 q) ++ wordsB srcs)) (e1 : Hid ((1 : Int) = 200 ∨ (1 : Int) = 201 → nn = 0 ∧ ns = 0)) (e2 : Hid ((1 : Int) = 202 → nr = 0 ∧ ns = 0)) (e3 : Hid ((1 : Int) = 203 → nr = 0 ∧ nn = 0)) (e4 : Hid ((1 : Int) = 1 ∨ (1 : Int) = 2 ∨ (1 : Int) = 3 → nr = 0 ∧ nn = 0 ∧ ns = 0)) (e5 : Hid ((1 : Int) = 4 → nr = 0 ∧ nn = 0 ∧ ns ≤ 16)) (hHd : Hid (hdrW ⟨(1 : Int), s, m, t, st, pk, oc, reps, nams, srcs, loss, firs, rt⟩ = hd)) (hBw : Hid (bodyW ⟨(1 : Int), s, m, t, st, pk, oc, reps, nams, srcs, loss, firs, rt⟩ = bw)) (hL0 : Hid ((if (1 : Int) = 202 ∨ (1 : Int) = 203 then [] else putB 4 s) = L0)) (hn0 : n0 ≤ 4) (hm0 : n0 % 4 = 0) (hc0 : n0 ≤ cb) (hc1 : cb ≤ 9223372036854775807) (w1 w3 : World) (r4 : Hid (SQ EO w1 0 (.slice al nl cl_) nl loss)) (r5 : Hid (SQ EF w1 0 (.slice af nf cf) nf firs)) (P : Hid (HpB w1 gp (.cells #[.int .i64 (1 : Int), .int .u32 (s : Nat), .int .u32 (m : Nat), .int .u64 (t : Nat), .int .u32 (st : Nat), .int .u32 (pk : Nat), .int .u32 (oc : Nat), .slice ar nr cr, .slice an nn cn, .slice as_ ns cs, .slice al nl cl_, .slice af nf cf, .int .u64 (rt : Nat)] 111))) (O : Hid (OB w3 w1.heap.size 5 (.slice sb n0 cb) n0 L0)) (B : Hid (BW w1 w3)) (u0 u4 u5 u6 u10 u11 u12 u13 u14 u15 u16 u17 u18 u19 u20 u21 u22 u23 u24 u25 u26 u27 u28 u29 u30 u31 u32 u33 u34 u35 u36 u37 u38 u39 u40 u41 u42 u44 u45 u46 u47 u48 u49 u50 u51 u52 u53 u54 u55 u56 u57 u58 u59 u60 u61 u62 u63 u64 u65 u66 u67 u68 u69 u70 u71 u72 u73 u74 u75 u76 u77 u78 u79 u80 u81 u82 u83 u84 u85 u86 u87 u88 u89 u90 u91 u92 u93 u94 u95 u96 u97 u98 u99 u100 u101 u102 u103 u104 u105 u106 u107 u108 u109 u110 u111 u112 u113 u114 u115 u116 u117 u118 u119 u120 u121 u122 u123 u124 u125 u126 u127 u128 u129 u130 u131 u132 u133 u134 u135 u136 u137 u138 u139 u140 u141 u142 u143 u144 u145 u146 u147 u148 u149 u150 u151 u152 u153 u154 u155 u156 u157 u158 u159 u160 u161 u162 u163 u164 u165 u166 u167 u168 u169 u170 u171 u172 u173 u174 u175 u176 u177 u178 u179 u180 u181 u182 u183 u184 u185 u186 u187 u188 u189 u190 u191 u192 u193 u194 u195 u196 u197 u198 u199 u200 u201 u202 u203 u204 u205 u206 u207 u208 u209 u210 u211 u212 u213 u214 u215 u216 u217 u218 u219 u220 u221 u222 u223 u224 u225 u226 u227 u228 u229 u230 u231 u232 u233 u234 u235 u236 u237 u238 u239 u240 u241 u242 u243 u244 u245 u246 u247 u248 u249 u250 u251 u252 u253 u254 u255 u256 u257 u258 u259 u260 u261 u262 u263 u264 : Value) (hK : Hid (∀ (L : List Nat) (sb' : Option Addr) (cb' n typ cnt : Nat) {y10 y11 y44 y45 y46 y47 y48 y49 y50 y51 y52 y53 y54 y55 y56 y57 y58 y59 y60 y61 y62 y63 y64 y65 y66 y67 y68 y69 y70 y71 y72 y73 y74 y75 y76 y77 y78 y79 y80 y81 y82 y83 y84 y85 y86 y87 y88 y89 y90 y91 y92 y93 y94 y95 y96 y97 y98 y99 y100 y101 y102 y103 y104 y105 y106 y107 y108 y109 y110 y111 y112 y113 y114 y115 y116 y117 y118 y119 y120 y121 y122 y123 y124 y125 y126 y127 y128 y129 y130 y131 y132 y133 y134 y135 y136 y137 y138 y139 y140 y141 y142 y143 y144 y145 y146 vt vc : Value} {wc : World}, vt = .int .i64 (typ : Nat) → vc = .int .i64 (cnt : Nat) → n ≤ cb' → cb' ≤ 9223372036854775807 → n ≤ 900 → n % 4 = 0 → hd = (typ, cnt) → bw = ((L ++ repsB reps) ++ namsB nams) ++ wordsB srcs → OB wc w1.heap.size 5 (.slice sb' n cb') n L → BW w1 wc → K ⟨#[u0, .int .u64 (mn : Nat), .int .i64 (ex : Nat), .pointer (some ⟨gp, 0, none⟩), u4, u5, u6, .slice sb' n cb', vt, vc, y10, y11, u12, u13, u14, u15, u16, u17, u18, u19, u20, u21, u22, u23, u24, u25, u26, u27, u28, u29, u30, u31, u32, u33, u34, u35, u36, u37, u38, u39, u40, u41, u42, .int .i64 1, y44, y45, y46, y47, y48, y49, y50, y51, y52, y53, y54, y55, y56, y57, y58, y59, y60, y61, y62, y63, y64, y65, y66, y67, y68, y69, y70, y71, y72, y73, y74, y75, y76, y77, y78, y79, y80, y81, y82, y83, y84, y85, y86, y87, y88, y89, y90, y91, y92, y93, y94, y95, y96, y97, y98, y99, y100, y101, y102, y103, y104, y105, y106, y107, y108, y109, y110, y111, y112, y113, y114, y115, y116, y117, y118, y119, y120, y121, y122, y123, y124, y125, y126, y127, y128, y129, y130, y131, y132, y133, y134, y135, y136, y137, y138, y139, y140, y141, y142, y143, y144, y145, y146, u147, u148, u149, u150, u151, u152, u153, u154, u155, u156, u157, u158, u159, u160, u161, u162, u163, u164, u165, u166, u167, u168, u169, u170, u171, u172, u173, u174, u175, u176, u177, u178, u179, u180, u181, u182, u183, u184, u185, u186, u187, u188, u189, u190, u191, u192, u193, u194, u195, u196, u197, u198, u199, u200, u201, u202, u203, u204, u205, u206, u207, u208, u209, u210, u211, u212, u213, u214, u215, u216, u217, u218, u219, u220, u221, u222, u223, u224, u225, u226, u227, u228, u229, u230, u231, u232, u233, u234, u235, u236, u237, u238, u239, u240, u241, u242, u243, u244, u245, u246, u247, u248, u249, u250, u251, u252, u253, u254, u255, u256, u257, u258, u259, u260, u261, u262, u263, u264], []⟩ wc)) :
  Code.wp Try.prog oneSw (Exit.then K Q) ⟨#[u0, .int .u64 (mn : Nat), .int .i64 (ex : Nat), .pointer (some ⟨gp, 0, none⟩), u4, u5, u6, .slice sb n0 cb, .int .i64 1, .int .i64 ((nr : Int) + (nn : Int) + (ns : Int)), u10, u11, u12, u13, u14, u15, u16, u17, u18, u19, u20, u21, u22, u23, u24, u25, u26, u27, u28, u29, u30, u31, u32, u33, u34, u35, u36, u37, u38, u39, u40, u41, u42, .int .i64 1, u44, u45, u46, u47, u48, u49, u50, u51, u52, u53, u54, u55, u56, u57, u58, u59, u60, u61, u62, u63, u64, u65, u66, u67, u68, u69, u70, u71, u72, u73, u74, u75, u76, u77, u78, u79, u80, u81, u82, u83, u84, u85, u86, u87, u88, u89, u90, u91, u92, u93, u94, u95, u96, u97, u98, u99, u100, u101, u102, u103, u104, u105, u106, u107, u108, u109, u110, u111, u112, u113, u114, u115, u116, u117, u118, u119, u120, u121, u122, u123, u124, u125, u126, u127, u128, u129, u130, u131, u132, u133, u134, u135, u136, u137, u138, u139, u140, u141, u142, u143, u144, u145, u146, u147, u148, u149, u150, u151, u152, u153, u154, u155, u156, u157, u158, u159, u160, u161, u162, u163, u164, u165, u166, u167, u168, u169, u170, u171, u172, u173, u174, u175, u176, u177, u178, u179, u180, u181, u182, u183, u184, u185, u186, u187, u188, u189, u190, u191, u192, u193, u194, u195, u196, u197, u198, u199, u200, u201, u202, u203, u204, u205, u206, u207, u208, u209, u210, u211, u212, u213, u214, u215, u216, u217, u218, u219, u220, u221, u222, u223, u224, u225, u226, u227, u228, u229, u230, u231, u232, u233, u234, u235, u236, u237, u238, u239, u240, u241, u242, u243, u244, u245, u246, u247, u248, u249, u250, u251, u252, u253, u254, u255, u256, u257, u258, u259, u260, u261, u262, u263, u264], []⟩ w3 := by
 conv => arg 2; whnf
 obtain ⟨z1, z2, z3⟩ := e4.out (.inl rfl)
 have hR0 : reps = [] := List.eq_nil_of_length_eq_zero (by rw [l1.out]; exact z1)
 have hN0 : nams = [] := List.eq_nil_of_length_eq_zero (by rw [l2.out]; exact z2)
 replace hR0 := Lib.hid hR0
 replace hN0 := Lib.hid hN0
 have hS0 : srcs = [] := List.eq_nil_of_length_eq_zero (by rw [l3.out]; exact z3)
 replace hS0 := Lib.hid hS0
 clear z3
 clear z1 z2
 have hL := hL0.out
 rw [if_neg (by decide)] at hL
 subst hL
 have z5 := (hp_cell (P.out.bw B.out) 2).trans (show _ = some (.int .u32 (m : Nat)) from rfl)
 have c4' := Lib.hid (rpw_ok (.slice sb n0 cb) n0 (putB 4 s) 4 m 4 (by decide) (by decide) rfl (by omega) (by omega) w3 O.out.sb)
 go_wp2_with fail
 refine Calls.mono c4'.out ?_
 rintro e w4 ⟨s4, c4, rfl, hc4, O4, hb⟩
 replace O4 := Lib.hid (O4.up B.out.size)
 replace B := Lib.hid (B.out.trans hb)
 clear hb c4' O z5
 have O := O4
 clear O4
 generalize hn1 : n0 + 4 = n1 at *
 have hn1l : n1 ≤ 8 := by omega
 have hn1m : n1 % 4 = 0 := by omega
 replace hn1 := Lib.hid hn1
 dsimp only
 go_upto_region 13 with (fail)
 have hL9 : lossB (loss.take nl) = lossB loss := by rw [← l4.out, List.take_length]
 have hst := fun j (h : j < loss.length) => lossB_snoc loss j h
 generalize hA : putB 4 s ++ putB 4 m = A at *
 replace hL9 := Lib.hid hL9
 replace hst := Lib.hid hst
 replace hA := Lib.hid hA
 go_loopg [7, 10] nl (fun m' v a wx => ∃ (j : Nat) (s1 : Option Addr) (c1 : Nat), m' = nl - j ∧ j ≤ nl ∧ v = .slice s1 (n1 + 4 * j) c1 ∧ n1 + 4 * j ≤ c1 ∧ c1 ≤ 9223372036854775807 ∧ a = .int .i64 (j : Nat) ∧ Hid (OB wx w1.heap.size 5 (.slice s1 (n1 + 4 * j) c1) (n1 + 4 * j) (A ++ lossB (loss.take j))) ∧ Hid (BW w1 wx))
 case atStart => exact ⟨0, s4, c4, rfl, by omega, rfl, hc4.1, hc4.2, rfl, by show OB _ _ _ _ _ _; simpa [lossB] using O.out, B⟩
 case round =>
  clear O B
  obtain ⟨j, s1, c1, rfl, hj, rfl, hc5, hc6, rfl, O, B⟩ := hrel
  have z10 := (hp_cell (P.out.bw B.out) 10).trans (show _ = some (.slice al nl cl_) from rfl)
  by_cases hjn : j < nl
  ·have d : decide ((j : Int) < (nl : Int)) = true := by simp; omega
   have hjl : j < loss.length := by rw [l4.out]; exact hjn
   obtain ⟨ga, oa, rfl, -, hca⟩ := sq_cells (r4.out.bw B.out) (by omega)
   obtain ⟨xa, hxa, hya⟩ := hca j hjl
   replace hxa : xa = lossV (loss[j]) := hxa
   replace hya : ∀ q, q < 2 → wr.cell? ⟨ga, oa + j * 2 + q, none⟩ = (lossV (loss[j]))[q]? := fun q hq => by rw [← hxa]; exact hya q hq
   have hs1 := hst.out j hjl
   have hb12 := b12.out _ (List.getElem_mem hjl)
   clear hxa hca
   generalize loss[j] = E at *
   obtain ⟨e0, e1'⟩ := E
   obtain ⟨hb1, hb2⟩ := hb12
   dsimp only at hb1 hb2 hs1
   have y0 : ∀ y : LaterS [] wr, y.now.cell? ⟨ga, oa + j * 2, none⟩ = some (.int .u16 (e0 : Nat)) := fun y => y.bw.cell (hya 0 (by decide))
   have y1 : ∀ y : LaterS [] wr, y.now.cell? ⟨ga, oa + j * 2 + 1, none⟩ = some (.int .u16 (e1' : Nat)) := fun y => y.bw.cell (hya 1 (by decide))
   have m10 : ∀ y : LaterS [] wr, y.now.cell? ⟨gp, 10, none⟩ = some (.slice (some ⟨ga, oa, none⟩) nl cl_) := fun y => (hp_cell (P.out.bw (B.out.trans y.bw)) 10).trans rfl
   clear hya
   generalize hX : A ++ lossB (loss.take j) = X at *
   have hfin : A ++ lossB (loss.take (j + 1)) = (X ++ putB 2 e0) ++ putB 2 e1' := by rw [hs1, ← List.append_assoc, hX, List.append_assoc]
   generalize hnj : n1 + 4 * j = nj at *
   have hnl : nj ≤ 500 := by omega
   replace hfin := Lib.hid hfin
   replace hX := Lib.hid hX
   replace hnj := Lib.hid hnj
   replace hs1 := Lib.hid hs1
   go_upto_region 15 with (fail)
   clear z10
   refine wp_region_gg [] [] [17] (by kernel_rfl) ?_
   refine hoist [] [] (a1 := ?_) 0 rfl (by kernel_rfl) (.inl ⟨rfl, rfl⟩) rfl rfl rfl (fun x K hK => ?_) ?_
   rotate_left
   ·go_big_quiet_op
    exact hK
   refine hoist [] [] (a1 := ?_) 1 rfl (by kernel_rfl) (.inl ⟨rfl, rfl⟩) rfl rfl rfl (fun x K hK => ?_) ?_
   rotate_left
   ·go_big_quiet_op
    exact hK
   refine hoist [] [] (a1 := ?_) 2 rfl (by kernel_rfl) (.inl ⟨rfl, rfl⟩) rfl rfl rfl (fun x K hK => ?_) ?_
   rotate_left
   ·go_big_quiet_op
    exact hK
   refine hoist [] [] (a1 := ?_) 3 rfl (by kernel_rfl) (.inl ⟨rfl, rfl⟩) rfl rfl rfl (fun x K hK => ?_) ?_
   rotate_left
   ·go_big_quiet_op
    exact hK
   refine hoist [] [] (a1 := ?_) 4 rfl (by kernel_rfl) (.inl ⟨rfl, rfl⟩) rfl rfl rfl (fun x K hK => ?_) ?_
   rotate_left
   ·go_big_quiet_op
    exact hK
   refine hoist [] [] (a1 := ?_) 5 rfl (by kernel_rfl) (.inl ⟨rfl, rfl⟩) rfl rfl rfl (fun x K hK => ?_) ?_
   rotate_left
   ·go_big_quiet_op
    exact hK
   refine hoist [] [] (a1 := ?_) 6 rfl (by kernel_rfl) (.inl ⟨rfl, rfl⟩) rfl rfl rfl (fun x K hK => ?_) ?_
   rotate_left
   ·go_big_quiet_op
    exact hK
   refine hoist [] [] (a1 := ?_) 7 rfl (by kernel_rfl) (.inl ⟨rfl, rfl⟩) rfl rfl rfl (fun x K hK => ?_) ?_
   rotate_left
   ·go_big_quiet_op
    exact hK
   refine hoist [] [] (a1 := ?_) 9 rfl (by kernel_rfl) (.inl ⟨rfl, rfl⟩) rfl rfl rfl (fun x K hK => ?_) ?_
   rotate_left
   ·go_big_quiet_op
    exact hK
   refine hoist [] [] (a1 := ?_) 10 rfl (by kernel_rfl) (.inl ⟨rfl, rfl⟩) rfl rfl rfl (fun x K hK => ?_) ?_
   rotate_left
   ·go_big_quiet_op
    exact hK
   refine hoist [] [] (a1 := ?_) 11 rfl (by kernel_rfl) (.inl ⟨rfl, rfl⟩) rfl rfl rfl (fun x K hK => ?_) ?_
   rotate_left
   ·go_big_quiet_op
    exact hK
   refine hoist [] [] (a1 := ?_) 12 rfl (by kernel_rfl) (.inl ⟨rfl, rfl⟩) rfl rfl rfl (fun x K hK => ?_) ?_
   rotate_left
   ·go_big_quiet_op
    exact hK
   refine hoist [] [] (a1 := ?_) 13 rfl (by kernel_rfl) (.inl ⟨rfl, rfl⟩) rfl rfl rfl (fun x K hK => ?_) ?_
   rotate_left
   ·go_big_quiet_op
    exact hK
   refine hoist [] [] (a1 := ?_) 14 rfl (by kernel_rfl) (.inl ⟨rfl, rfl⟩) rfl rfl rfl (fun x K hK => ?_) ?_
   rotate_left
   ·go_big_quiet_op
    exact hK
   refine hoist [] [] (a1 := ?_) 15 rfl (by kernel_rfl) (.inl ⟨rfl, rfl⟩) rfl rfl rfl (fun x K hK => ?_) ?_
   rotate_left
   ·go_big_quiet_op
    exact hK
   refine effect 8 rfl (by kernel_rfl) (by kernel_rfl) rfl (fun x8 K hK => ?_)
   go_simp
   have hx0 := x8.bw
   have hz0 := (B.out.trans hx0).size
   refine Calls.mono (rpw_ok _ (nj) (X) 2 (e0) 2 (by decide) (by decide) rfl (by omega) (by omega) x8.now (O.out.bw hx0).sb) ?_
   rintro e w'8 ⟨s8, c8, rfl, hc8, O1, hb⟩
   refine hK _ _ (hb.still _) ?_
   clear hK K
   replace B := Lib.hid ((B.out.trans hx0).trans hb)
   replace O := Lib.hid (O1.up hz0)
   try replace BX5 := Lib.hid ((BX5.out.trans hx0).trans hb)
   clear hx0 hz0 O1 hb
   try simp only [Act.put, List.setIfInBounds_toArray, List.set_cons_succ, List.set_cons_zero]
   refine effect 16 rfl (by kernel_rfl) (by kernel_rfl) rfl (fun x16 K hK => ?_)
   go_simp
   have hx0 := x16.bw
   have hz0 := (B.out.trans hx0).size
   refine Calls.mono (rpw_ok _ (nj + 2) (X ++ putB 2 e0) 2 (e1') 2 (by decide) (by decide) rfl (by omega) (by omega) x16.now (O.out.bw hx0).sb) ?_
   rintro e w'16 ⟨s16, c16, rfl, hc16, O1, hb⟩
   refine hK _ _ (hb.still _) ?_
   clear hK K
   replace B := Lib.hid ((B.out.trans hx0).trans hb)
   replace O := Lib.hid (O1.up hz0)
   try replace BX5 := Lib.hid ((BX5.out.trans hx0).trans hb)
   clear hx0 hz0 O1 hb
   try simp only [Act.put, List.setIfInBounds_toArray, List.set_cons_succ, List.set_cons_zero]
   refine tail 17 rfl (by kernel_rfl) rfl (fun xr => ?_)
   simp only [List.drop_succ_cons, List.drop_zero]
   replace B := Lib.hid (B.out.trans xr.bw)
   replace O := Lib.hid (O.out.bw xr.bw)
   clear m10 y0 y1
   generalize xr.now = w6 at *
   go_wp2_with fail
   go_roundg (nl - (j + 1))
   case measure => omega
   case rel =>
    have hn9 := hnj.out
    obtain ⟨h1, h2⟩ := hc16
    refine ⟨j + 1, s16, c16, rfl, by omega, ?_, by omega, by omega, by push_cast; rfl, ?_, B⟩
    ·rw [show n1 + 4 * (j + 1) = nj + 2 + 2 by omega]
    ·rw [show n1 + 4 * (j + 1) = nj + 2 + 2 by omega, hfin.out]; exact O
  ·obtain rfl : j = nl := by omega
   have d : decide ((j : Int) < (j : Int)) = false := by simp
   have hbo : Hid (bw = ((((A ++ lossB (loss.take j)) ++ repsB reps) ++ namsB nams) ++ wordsB srcs)) := by
    show _ = _
    rw [← hBw.out, hL9.out, ← hA.out, hR0.out, hN0.out, hS0.out]
    simp [bodyW, wordsB, namsB, repsB]
   have hho : Hid (hd = (205, 1)) := by show _ = _; rw [← hHd.out]; simp [hdrW]
   generalize A ++ lossB (loss.take j) = X at *
   clear hL9 hst hA
   go_wp2_with fail
   refine hK.out X s1 c1 (n1 + 4 * j) 205 1 rfl rfl hc5 hc6 (by omega) (by omega) hho.out hbo.out O.out B.out
set_option maxRecDepth 100000 in
set_option maxHeartbeats 8000000 in
theorem sw_2 {K : Act → World → Prop} {Q : Exit → Act → World → Prop} (s m t st pk oc rt : Nat) (ar an as_ al af : Option Addr) (nr nn ns nl nf cr cn cs cl_ cf : Nat) (reps : List Rep) (nams : List (Nat × List Nat)) (srcs : List Nat) (loss firs : List (Nat × Nat)) (mn ex q gp n0 cb : Nat) (sb : Option Addr) (L0 : List Nat) (hd : Nat × Nat) (bw : List Nat) (l1 : Hid (reps.length = nr)) (l2 : Hid (nams.length = nn)) (l3 : Hid (srcs.length = ns)) (l4 : Hid (loss.length = nl)) (l5 : Hid (firs.length = nf)) (b2 : s < 4294967296) (b3 : m < 4294967296) (b4 : t < 18446744073709551616) (b5 : st < 4294967296) (b6 : pk < 4294967296) (b7 : oc < 4294967296) (b12 : Hid (∀ p ∈ loss, p.1 < 65536 ∧ p.2 < 65536)) (b13 : Hid (∀ p ∈ firs, p.1 < 4294967296 ∧ p.2 < 256)) (q1 : nr ≤ 100) (q2 : nn ≤ 100) (q3 : ns ≤ 100) (q4 : nl ≤ 100) (q5 : nf ≤ 100) (hml : (mn : Int) ≤ 262143) (hel : (ex : Int) ≤ 46) (hql : Hid (q < 18446744073709551616)) (hq : Hid (ex * 262144 + mn = q)) (hRB : Hid (rembB s rt srcs = (((wordsB [s, 0] ++ [82, 69, 77, 66]) ++ putB 1 srcs.length) ++ putB 3 q) ++ wordsB srcs)) (e1 : Hid ((2 : Int) = 200 ∨ (2 : Int) = 201 → nn = 0 ∧ ns = 0)) (e2 : Hid ((2 : Int) = 202 → nr = 0 ∧ ns = 0)) (e3 : Hid ((2 : Int) = 203 → nr = 0 ∧ nn = 0)) (e4 : Hid ((2 : Int) = 1 ∨ (2 : Int) = 2 ∨ (2 : Int) = 3 → nr = 0 ∧ nn = 0 ∧ ns = 0)) (e5 : Hid ((2 : Int) = 4 → nr = 0 ∧ nn = 0 ∧ ns ≤ 16)) (hHd : Hid (hdrW ⟨(2 : Int), s, m, t, st, pk, oc, reps, nams, srcs, loss, firs, rt⟩ = hd)) (hBw : Hid (bodyW ⟨(2 : Int), s, m, t, st, pk, oc, reps, nams, srcs, loss, firs, rt⟩ = bw)) (hL0 : Hid ((if (2 : Int) = 202 ∨ (2 : Int) = 203 then [] else putB 4 s) = L0)) (hn0 : n0 ≤ 4) (hm0 : n0 % 4 = 0) (hc0 : n0 ≤ cb) (hc1 : cb ≤ 9223372036854775807) (w1 w3 : World) (r4 : Hid (SQ EO w1 0 (.slice al nl cl_) nl loss)) (r5 : Hid (SQ EF w1 0 (.slice af nf cf) nf firs)) (P : Hid (HpB w1 gp (.cells #[.int .i64 (2 : Int), .int .u32 (s : Nat), .int .u32 (m : Nat), .int .u64 (t : Nat), .int .u32 (st : Nat), .int .u32 (pk : Nat), .int .u32 (oc : Nat), .slice ar nr cr, .slice an nn cn, .slice as_ ns cs, .slice al nl cl_, .slice af nf cf, .int .u64 (rt : Nat)] 111))) (O : Hid (OB w3 w1.heap.size 5 (.slice sb n0 cb) n0 L0)) (B : Hid (BW w1 w3)) (u0 u4 u5 u6 u10 u11 u12 u13 u14 u15 u16 u17 u18 u19 u20 u21 u22 u23 u24 u25 u26 u27 u28 u29 u30 u31 u32 u33 u34 u35 u36 u37 u38 u39 u40 u41 u42 u44 u45 u46 u47 u48 u49 u50 u51 u52 u53 u54 u55 u56 u57 u58 u59 u60 u61 u62 u63 u64 u65 u66 u67 u68 u69 u70 u71 u72 u73 u74 u75 u76 u77 u78 u79 u80 u81 u82 u83 u84 u85 u86 u87 u88 u89 u90 u91 u92 u93 u94 u95 u96 u97 u98 u99 u100 u101 u102 u103 u104 u105 u106 u107 u108 u109 u110 u111 u112 u113 u114 u115 u116 u117 u118 u119 u120 u121 u122 u123 u124 u125 u126 u127 u128 u129 u130 u131 u132 u133 u134 u135 u136 u137 u138 u139 u140 u141 u142 u143 u144 u145 u146 u147 u148 u149 u150 u151 u152 u153 u154 u155 u156 u157 u158 u159 u160 u161 u162 u163 u164 u165 u166 u167 u168 u169 u170 u171 u172 u173 u174 u175 u176 u177 u178 u179 u180 u181 u182 u183 u184 u185 u186 u187 u188 u189 u190 u191 u192 u193 u194 u195 u196 u197 u198 u199 u200 u201 u202 u203 u204 u205 u206 u207 u208 u209 u210 u211 u212 u213 u214 u215 u216 u217 u218 u219 u220 u221 u222 u223 u224 u225 u226 u227 u228 u229 u230 u231 u232 u233 u234 u235 u236 u237 u238 u239 u240 u241 u242 u243 u244 u245 u246 u247 u248 u249 u250 u251 u252 u253 u254 u255 u256 u257 u258 u259 u260 u261 u262 u263 u264 : Value) (hK : Hid (∀ (L : List Nat) (sb' : Option Addr) (cb' n typ cnt : Nat) {y10 y11 y44 y45 y46 y47 y48 y49 y50 y51 y52 y53 y54 y55 y56 y57 y58 y59 y60 y61 y62 y63 y64 y65 y66 y67 y68 y69 y70 y71 y72 y73 y74 y75 y76 y77 y78 y79 y80 y81 y82 y83 y84 y85 y86 y87 y88 y89 y90 y91 y92 y93 y94 y95 y96 y97 y98 y99 y100 y101 y102 y103 y104 y105 y106 y107 y108 y109 y110 y111 y112 y113 y114 y115 y116 y117 y118 y119 y120 y121 y122 y123 y124 y125 y126 y127 y128 y129 y130 y131 y132 y133 y134 y135 y136 y137 y138 y139 y140 y141 y142 y143 y144 y145 y146 vt vc : Value} {wc : World}, vt = .int .i64 (typ : Nat) → vc = .int .i64 (cnt : Nat) → n ≤ cb' → cb' ≤ 9223372036854775807 → n ≤ 900 → n % 4 = 0 → hd = (typ, cnt) → bw = ((L ++ repsB reps) ++ namsB nams) ++ wordsB srcs → OB wc w1.heap.size 5 (.slice sb' n cb') n L → BW w1 wc → K ⟨#[u0, .int .u64 (mn : Nat), .int .i64 (ex : Nat), .pointer (some ⟨gp, 0, none⟩), u4, u5, u6, .slice sb' n cb', vt, vc, y10, y11, u12, u13, u14, u15, u16, u17, u18, u19, u20, u21, u22, u23, u24, u25, u26, u27, u28, u29, u30, u31, u32, u33, u34, u35, u36, u37, u38, u39, u40, u41, u42, .int .i64 2, y44, y45, y46, y47, y48, y49, y50, y51, y52, y53, y54, y55, y56, y57, y58, y59, y60, y61, y62, y63, y64, y65, y66, y67, y68, y69, y70, y71, y72, y73, y74, y75, y76, y77, y78, y79, y80, y81, y82, y83, y84, y85, y86, y87, y88, y89, y90, y91, y92, y93, y94, y95, y96, y97, y98, y99, y100, y101, y102, y103, y104, y105, y106, y107, y108, y109, y110, y111, y112, y113, y114, y115, y116, y117, y118, y119, y120, y121, y122, y123, y124, y125, y126, y127, y128, y129, y130, y131, y132, y133, y134, y135, y136, y137, y138, y139, y140, y141, y142, y143, y144, y145, y146, u147, u148, u149, u150, u151, u152, u153, u154, u155, u156, u157, u158, u159, u160, u161, u162, u163, u164, u165, u166, u167, u168, u169, u170, u171, u172, u173, u174, u175, u176, u177, u178, u179, u180, u181, u182, u183, u184, u185, u186, u187, u188, u189, u190, u191, u192, u193, u194, u195, u196, u197, u198, u199, u200, u201, u202, u203, u204, u205, u206, u207, u208, u209, u210, u211, u212, u213, u214, u215, u216, u217, u218, u219, u220, u221, u222, u223, u224, u225, u226, u227, u228, u229, u230, u231, u232, u233, u234, u235, u236, u237, u238, u239, u240, u241, u242, u243, u244, u245, u246, u247, u248, u249, u250, u251, u252, u253, u254, u255, u256, u257, u258, u259, u260, u261, u262, u263, u264], []⟩ wc)) :
  Code.wp Try.prog oneSw (Exit.then K Q) ⟨#[u0, .int .u64 (mn : Nat), .int .i64 (ex : Nat), .pointer (some ⟨gp, 0, none⟩), u4, u5, u6, .slice sb n0 cb, .int .i64 2, .int .i64 ((nr : Int) + (nn : Int) + (ns : Int)), u10, u11, u12, u13, u14, u15, u16, u17, u18, u19, u20, u21, u22, u23, u24, u25, u26, u27, u28, u29, u30, u31, u32, u33, u34, u35, u36, u37, u38, u39, u40, u41, u42, .int .i64 2, u44, u45, u46, u47, u48, u49, u50, u51, u52, u53, u54, u55, u56, u57, u58, u59, u60, u61, u62, u63, u64, u65, u66, u67, u68, u69, u70, u71, u72, u73, u74, u75, u76, u77, u78, u79, u80, u81, u82, u83, u84, u85, u86, u87, u88, u89, u90, u91, u92, u93, u94, u95, u96, u97, u98, u99, u100, u101, u102, u103, u104, u105, u106, u107, u108, u109, u110, u111, u112, u113, u114, u115, u116, u117, u118, u119, u120, u121, u122, u123, u124, u125, u126, u127, u128, u129, u130, u131, u132, u133, u134, u135, u136, u137, u138, u139, u140, u141, u142, u143, u144, u145, u146, u147, u148, u149, u150, u151, u152, u153, u154, u155, u156, u157, u158, u159, u160, u161, u162, u163, u164, u165, u166, u167, u168, u169, u170, u171, u172, u173, u174, u175, u176, u177, u178, u179, u180, u181, u182, u183, u184, u185, u186, u187, u188, u189, u190, u191, u192, u193, u194, u195, u196, u197, u198, u199, u200, u201, u202, u203, u204, u205, u206, u207, u208, u209, u210, u211, u212, u213, u214, u215, u216, u217, u218, u219, u220, u221, u222, u223, u224, u225, u226, u227, u228, u229, u230, u231, u232, u233, u234, u235, u236, u237, u238, u239, u240, u241, u242, u243, u244, u245, u246, u247, u248, u249, u250, u251, u252, u253, u254, u255, u256, u257, u258, u259, u260, u261, u262, u263, u264], []⟩ w3 := by
 conv => arg 2; whnf
 obtain ⟨z1, z2, z3⟩ := e4.out (.inr (.inl rfl))
 have hR0 : reps = [] := List.eq_nil_of_length_eq_zero (by rw [l1.out]; exact z1)
 have hN0 : nams = [] := List.eq_nil_of_length_eq_zero (by rw [l2.out]; exact z2)
 replace hR0 := Lib.hid hR0
 replace hN0 := Lib.hid hN0
 have hS0 : srcs = [] := List.eq_nil_of_length_eq_zero (by rw [l3.out]; exact z3)
 replace hS0 := Lib.hid hS0
 clear z3
 clear z1 z2
 have hL := hL0.out
 rw [if_neg (by decide)] at hL
 subst hL
 have z5 := (hp_cell (P.out.bw B.out) 2).trans (show _ = some (.int .u32 (m : Nat)) from rfl)
 have c4' := Lib.hid (rpw_ok (.slice sb n0 cb) n0 (putB 4 s) 4 m 4 (by decide) (by decide) rfl (by omega) (by omega) w3 O.out.sb)
 go_wp2_with fail
 refine Calls.mono c4'.out ?_
 rintro e w4 ⟨s4, c4, rfl, hc4, O4, hb⟩
 replace O4 := Lib.hid (O4.up B.out.size)
 replace B := Lib.hid (B.out.trans hb)
 clear hb c4' O z5
 have O := O4
 clear O4
 generalize hn1 : n0 + 4 = n1 at *
 have hn1l : n1 ≤ 8 := by omega
 have hn1m : n1 % 4 = 0 := by omega
 replace hn1 := Lib.hid hn1
 dsimp only
 have hbo : Hid (bw = ((((putB 4 s ++ putB 4 m)) ++ repsB reps) ++ namsB nams) ++ wordsB srcs) := by
  show _ = _
  rw [← hBw.out, hR0.out, hN0.out, hS0.out]
  simp [bodyW, wordsB, namsB, repsB]
 have hho : Hid (hd = (206, 1)) := by show _ = _; rw [← hHd.out]; simp [hdrW]
 go_wp2_with fail
 refine hK.out _ s4 c4 n1 206 1 rfl rfl hc4.1 hc4.2 (by omega) (by omega) hho.out hbo.out O.out B.out
set_option maxRecDepth 100000 in
set_option maxHeartbeats 8000000 in
theorem sw_3 {K : Act → World → Prop} {Q : Exit → Act → World → Prop} (s m t st pk oc rt : Nat) (ar an as_ al af : Option Addr) (nr nn ns nl nf cr cn cs cl_ cf : Nat) (reps : List Rep) (nams : List (Nat × List Nat)) (srcs : List Nat) (loss firs : List (Nat × Nat)) (mn ex q gp n0 cb : Nat) (sb : Option Addr) (L0 : List Nat) (hd : Nat × Nat) (bw : List Nat) (l1 : Hid (reps.length = nr)) (l2 : Hid (nams.length = nn)) (l3 : Hid (srcs.length = ns)) (l4 : Hid (loss.length = nl)) (l5 : Hid (firs.length = nf)) (b2 : s < 4294967296) (b3 : m < 4294967296) (b4 : t < 18446744073709551616) (b5 : st < 4294967296) (b6 : pk < 4294967296) (b7 : oc < 4294967296) (b12 : Hid (∀ p ∈ loss, p.1 < 65536 ∧ p.2 < 65536)) (b13 : Hid (∀ p ∈ firs, p.1 < 4294967296 ∧ p.2 < 256)) (q1 : nr ≤ 100) (q2 : nn ≤ 100) (q3 : ns ≤ 100) (q4 : nl ≤ 100) (q5 : nf ≤ 100) (hml : (mn : Int) ≤ 262143) (hel : (ex : Int) ≤ 46) (hql : Hid (q < 18446744073709551616)) (hq : Hid (ex * 262144 + mn = q)) (hRB : Hid (rembB s rt srcs = (((wordsB [s, 0] ++ [82, 69, 77, 66]) ++ putB 1 srcs.length) ++ putB 3 q) ++ wordsB srcs)) (e1 : Hid ((3 : Int) = 200 ∨ (3 : Int) = 201 → nn = 0 ∧ ns = 0)) (e2 : Hid ((3 : Int) = 202 → nr = 0 ∧ ns = 0)) (e3 : Hid ((3 : Int) = 203 → nr = 0 ∧ nn = 0)) (e4 : Hid ((3 : Int) = 1 ∨ (3 : Int) = 2 ∨ (3 : Int) = 3 → nr = 0 ∧ nn = 0 ∧ ns = 0)) (e5 : Hid ((3 : Int) = 4 → nr = 0 ∧ nn = 0 ∧ ns ≤ 16)) (hHd : Hid (hdrW ⟨(3 : Int), s, m, t, st, pk, oc, reps, nams, srcs, loss, firs, rt⟩ = hd)) (hBw : Hid (bodyW ⟨(3 : Int), s, m, t, st, pk, oc, reps, nams, srcs, loss, firs, rt⟩ = bw)) (hL0 : Hid ((if (3 : Int) = 202 ∨ (3 : Int) = 203 then [] else putB 4 s) = L0)) (hn0 : n0 ≤ 4) (hm0 : n0 % 4 = 0) (hc0 : n0 ≤ cb) (hc1 : cb ≤ 9223372036854775807) (w1 w3 : World) (r4 : Hid (SQ EO w1 0 (.slice al nl cl_) nl loss)) (r5 : Hid (SQ EF w1 0 (.slice af nf cf) nf firs)) (P : Hid (HpB w1 gp (.cells #[.int .i64 (3 : Int), .int .u32 (s : Nat), .int .u32 (m : Nat), .int .u64 (t : Nat), .int .u32 (st : Nat), .int .u32 (pk : Nat), .int .u32 (oc : Nat), .slice ar nr cr, .slice an nn cn, .slice as_ ns cs, .slice al nl cl_, .slice af nf cf, .int .u64 (rt : Nat)] 111))) (O : Hid (OB w3 w1.heap.size 5 (.slice sb n0 cb) n0 L0)) (B : Hid (BW w1 w3)) (u0 u4 u5 u6 u10 u11 u12 u13 u14 u15 u16 u17 u18 u19 u20 u21 u22 u23 u24 u25 u26 u27 u28 u29 u30 u31 u32 u33 u34 u35 u36 u37 u38 u39 u40 u41 u42 u44 u45 u46 u47 u48 u49 u50 u51 u52 u53 u54 u55 u56 u57 u58 u59 u60 u61 u62 u63 u64 u65 u66 u67 u68 u69 u70 u71 u72 u73 u74 u75 u76 u77 u78 u79 u80 u81 u82 u83 u84 u85 u86 u87 u88 u89 u90 u91 u92 u93 u94 u95 u96 u97 u98 u99 u100 u101 u102 u103 u104 u105 u106 u107 u108 u109 u110 u111 u112 u113 u114 u115 u116 u117 u118 u119 u120 u121 u122 u123 u124 u125 u126 u127 u128 u129 u130 u131 u132 u133 u134 u135 u136 u137 u138 u139 u140 u141 u142 u143 u144 u145 u146 u147 u148 u149 u150 u151 u152 u153 u154 u155 u156 u157 u158 u159 u160 u161 u162 u163 u164 u165 u166 u167 u168 u169 u170 u171 u172 u173 u174 u175 u176 u177 u178 u179 u180 u181 u182 u183 u184 u185 u186 u187 u188 u189 u190 u191 u192 u193 u194 u195 u196 u197 u198 u199 u200 u201 u202 u203 u204 u205 u206 u207 u208 u209 u210 u211 u212 u213 u214 u215 u216 u217 u218 u219 u220 u221 u222 u223 u224 u225 u226 u227 u228 u229 u230 u231 u232 u233 u234 u235 u236 u237 u238 u239 u240 u241 u242 u243 u244 u245 u246 u247 u248 u249 u250 u251 u252 u253 u254 u255 u256 u257 u258 u259 u260 u261 u262 u263 u264 : Value) (hK : Hid (∀ (L : List Nat) (sb' : Option Addr) (cb' n typ cnt : Nat) {y10 y11 y44 y45 y46 y47 y48 y49 y50 y51 y52 y53 y54 y55 y56 y57 y58 y59 y60 y61 y62 y63 y64 y65 y66 y67 y68 y69 y70 y71 y72 y73 y74 y75 y76 y77 y78 y79 y80 y81 y82 y83 y84 y85 y86 y87 y88 y89 y90 y91 y92 y93 y94 y95 y96 y97 y98 y99 y100 y101 y102 y103 y104 y105 y106 y107 y108 y109 y110 y111 y112 y113 y114 y115 y116 y117 y118 y119 y120 y121 y122 y123 y124 y125 y126 y127 y128 y129 y130 y131 y132 y133 y134 y135 y136 y137 y138 y139 y140 y141 y142 y143 y144 y145 y146 vt vc : Value} {wc : World}, vt = .int .i64 (typ : Nat) → vc = .int .i64 (cnt : Nat) → n ≤ cb' → cb' ≤ 9223372036854775807 → n ≤ 900 → n % 4 = 0 → hd = (typ, cnt) → bw = ((L ++ repsB reps) ++ namsB nams) ++ wordsB srcs → OB wc w1.heap.size 5 (.slice sb' n cb') n L → BW w1 wc → K ⟨#[u0, .int .u64 (mn : Nat), .int .i64 (ex : Nat), .pointer (some ⟨gp, 0, none⟩), u4, u5, u6, .slice sb' n cb', vt, vc, y10, y11, u12, u13, u14, u15, u16, u17, u18, u19, u20, u21, u22, u23, u24, u25, u26, u27, u28, u29, u30, u31, u32, u33, u34, u35, u36, u37, u38, u39, u40, u41, u42, .int .i64 3, y44, y45, y46, y47, y48, y49, y50, y51, y52, y53, y54, y55, y56, y57, y58, y59, y60, y61, y62, y63, y64, y65, y66, y67, y68, y69, y70, y71, y72, y73, y74, y75, y76, y77, y78, y79, y80, y81, y82, y83, y84, y85, y86, y87, y88, y89, y90, y91, y92, y93, y94, y95, y96, y97, y98, y99, y100, y101, y102, y103, y104, y105, y106, y107, y108, y109, y110, y111, y112, y113, y114, y115, y116, y117, y118, y119, y120, y121, y122, y123, y124, y125, y126, y127, y128, y129, y130, y131, y132, y133, y134, y135, y136, y137, y138, y139, y140, y141, y142, y143, y144, y145, y146, u147, u148, u149, u150, u151, u152, u153, u154, u155, u156, u157, u158, u159, u160, u161, u162, u163, u164, u165, u166, u167, u168, u169, u170, u171, u172, u173, u174, u175, u176, u177, u178, u179, u180, u181, u182, u183, u184, u185, u186, u187, u188, u189, u190, u191, u192, u193, u194, u195, u196, u197, u198, u199, u200, u201, u202, u203, u204, u205, u206, u207, u208, u209, u210, u211, u212, u213, u214, u215, u216, u217, u218, u219, u220, u221, u222, u223, u224, u225, u226, u227, u228, u229, u230, u231, u232, u233, u234, u235, u236, u237, u238, u239, u240, u241, u242, u243, u244, u245, u246, u247, u248, u249, u250, u251, u252, u253, u254, u255, u256, u257, u258, u259, u260, u261, u262, u263, u264], []⟩ wc)) :
  Code.wp Try.prog oneSw (Exit.then K Q) ⟨#[u0, .int .u64 (mn : Nat), .int .i64 (ex : Nat), .pointer (some ⟨gp, 0, none⟩), u4, u5, u6, .slice sb n0 cb, .int .i64 3, .int .i64 ((nr : Int) + (nn : Int) + (ns : Int)), u10, u11, u12, u13, u14, u15, u16, u17, u18, u19, u20, u21, u22, u23, u24, u25, u26, u27, u28, u29, u30, u31, u32, u33, u34, u35, u36, u37, u38, u39, u40, u41, u42, .int .i64 3, u44, u45, u46, u47, u48, u49, u50, u51, u52, u53, u54, u55, u56, u57, u58, u59, u60, u61, u62, u63, u64, u65, u66, u67, u68, u69, u70, u71, u72, u73, u74, u75, u76, u77, u78, u79, u80, u81, u82, u83, u84, u85, u86, u87, u88, u89, u90, u91, u92, u93, u94, u95, u96, u97, u98, u99, u100, u101, u102, u103, u104, u105, u106, u107, u108, u109, u110, u111, u112, u113, u114, u115, u116, u117, u118, u119, u120, u121, u122, u123, u124, u125, u126, u127, u128, u129, u130, u131, u132, u133, u134, u135, u136, u137, u138, u139, u140, u141, u142, u143, u144, u145, u146, u147, u148, u149, u150, u151, u152, u153, u154, u155, u156, u157, u158, u159, u160, u161, u162, u163, u164, u165, u166, u167, u168, u169, u170, u171, u172, u173, u174, u175, u176, u177, u178, u179, u180, u181, u182, u183, u184, u185, u186, u187, u188, u189, u190, u191, u192, u193, u194, u195, u196, u197, u198, u199, u200, u201, u202, u203, u204, u205, u206, u207, u208, u209, u210, u211, u212, u213, u214, u215, u216, u217, u218, u219, u220, u221, u222, u223, u224, u225, u226, u227, u228, u229, u230, u231, u232, u233, u234, u235, u236, u237, u238, u239, u240, u241, u242, u243, u244, u245, u246, u247, u248, u249, u250, u251, u252, u253, u254, u255, u256, u257, u258, u259, u260, u261, u262, u263, u264], []⟩ w3 := by
 conv => arg 2; whnf
 obtain ⟨z1, z2, z3⟩ := e4.out (.inr (.inr rfl))
 have hR0 : reps = [] := List.eq_nil_of_length_eq_zero (by rw [l1.out]; exact z1)
 have hN0 : nams = [] := List.eq_nil_of_length_eq_zero (by rw [l2.out]; exact z2)
 replace hR0 := Lib.hid hR0
 replace hN0 := Lib.hid hN0
 have hS0 : srcs = [] := List.eq_nil_of_length_eq_zero (by rw [l3.out]; exact z3)
 replace hS0 := Lib.hid hS0
 clear z3
 clear z1 z2
 have hL := hL0.out
 rw [if_neg (by decide)] at hL
 subst hL
 have c4' := Lib.hid (rpw_ok (.slice sb n0 cb) n0 (putB 4 s) 4 0 4 (by decide) (by decide) rfl (by omega) (by omega) w3 O.out.sb)
 go_wp2_with fail
 refine Calls.mono c4'.out ?_
 rintro e w4 ⟨s4, c4, rfl, hc4, O4, hb⟩
 replace O4 := Lib.hid (O4.up B.out.size)
 replace B := Lib.hid (B.out.trans hb)
 clear hb c4' O
 have O := O4
 clear O4
 generalize hn1 : n0 + 4 = n1 at *
 have hn1l : n1 ≤ 8 := by omega
 have hn1m : n1 % 4 = 0 := by omega
 replace hn1 := Lib.hid hn1
 dsimp only
 go_upto_region 25 with (fail)
 have hL9 : firB (firs.take nf) = firB firs := by rw [← l5.out, List.take_length]
 have hst := fun j (h : j < firs.length) => firB_snoc firs j h
 generalize hA : putB 4 s ++ putB 4 0 = A at *
 replace hL9 := Lib.hid hL9
 replace hst := Lib.hid hst
 replace hA := Lib.hid hA
 go_loopg [7, 11] nf (fun m' v a wx => ∃ (j : Nat) (s1 : Option Addr) (c1 : Nat), m' = nf - j ∧ j ≤ nf ∧ v = .slice s1 (n1 + 8 * j) c1 ∧ n1 + 8 * j ≤ c1 ∧ c1 ≤ 9223372036854775807 ∧ a = .int .i64 (j : Nat) ∧ Hid (OB wx w1.heap.size 5 (.slice s1 (n1 + 8 * j) c1) (n1 + 8 * j) (A ++ firB (firs.take j))) ∧ Hid (BW w1 wx))
 case atStart => exact ⟨0, s4, c4, rfl, by omega, rfl, hc4.1, hc4.2, rfl, by show OB _ _ _ _ _ _; simpa [firB] using O.out, B⟩
 case round =>
  clear O B
  obtain ⟨j, s1, c1, rfl, hj, rfl, hc5, hc6, rfl, O, B⟩ := hrel
  have z11 := (hp_cell (P.out.bw B.out) 11).trans (show _ = some (.slice af nf cf) from rfl)
  by_cases hjn : j < nf
  ·have d : decide ((j : Int) < (nf : Int)) = true := by simp; omega
   have hjl : j < firs.length := by rw [l5.out]; exact hjn
   obtain ⟨ga, oa, rfl, -, hca⟩ := sq_cells (r5.out.bw B.out) (by omega)
   obtain ⟨xa, hxa, hya⟩ := hca j hjl
   replace hxa : xa = firV (firs[j]) := hxa
   replace hya : ∀ q, q < 2 → wr.cell? ⟨ga, oa + j * 2 + q, none⟩ = (firV (firs[j]))[q]? := fun q hq => by rw [← hxa]; exact hya q hq
   have hs1 := hst.out j hjl
   have hb12 := b13.out _ (List.getElem_mem hjl)
   clear hxa hca
   generalize firs[j] = E at *
   obtain ⟨e0, e1'⟩ := E
   obtain ⟨hb1, hb2⟩ := hb12
   dsimp only at hb1 hb2 hs1
   have y0 : ∀ y : LaterS [] wr, y.now.cell? ⟨ga, oa + j * 2, none⟩ = some (.int .u32 (e0 : Nat)) := fun y => y.bw.cell (hya 0 (by decide))
   have y1 : ∀ y : LaterS [] wr, y.now.cell? ⟨ga, oa + j * 2 + 1, none⟩ = some (.int .u8 (e1' : Nat)) := fun y => y.bw.cell (hya 1 (by decide))
   have m11 : ∀ y : LaterS [] wr, y.now.cell? ⟨gp, 11, none⟩ = some (.slice (some ⟨ga, oa, none⟩) nf cf) := fun y => (hp_cell (P.out.bw (B.out.trans y.bw)) 11).trans rfl
   clear hya
   generalize hX : A ++ firB (firs.take j) = X at *
   have hfin : A ++ firB (firs.take (j + 1)) = ((X ++ putB 4 e0) ++ putB 1 e1') ++ putB 3 0 := by rw [hs1, ← List.append_assoc, hX]; simp [wordsB, put_fir]
   generalize hnj : n1 + 8 * j = nj at *
   have hnl : nj ≤ 900 := by omega
   replace hfin := Lib.hid hfin
   replace hX := Lib.hid hX
   replace hnj := Lib.hid hnj
   replace hs1 := Lib.hid hs1
   go_upto_region 27 with (fail)
   clear z11
   refine wp_region_gg [] [] [18] (by kernel_rfl) ?_
   refine hoist [] [] (a1 := ?_) 0 rfl (by kernel_rfl) (.inl ⟨rfl, rfl⟩) rfl rfl rfl (fun x K hK => ?_) ?_
   rotate_left
   ·go_big_quiet_op
    exact hK
   refine hoist [] [] (a1 := ?_) 1 rfl (by kernel_rfl) (.inl ⟨rfl, rfl⟩) rfl rfl rfl (fun x K hK => ?_) ?_
   rotate_left
   ·go_big_quiet_op
    exact hK
   refine hoist [] [] (a1 := ?_) 2 rfl (by kernel_rfl) (.inl ⟨rfl, rfl⟩) rfl rfl rfl (fun x K hK => ?_) ?_
   rotate_left
   ·go_big_quiet_op
    exact hK
   refine hoist [] [] (a1 := ?_) 3 rfl (by kernel_rfl) (.inl ⟨rfl, rfl⟩) rfl rfl rfl (fun x K hK => ?_) ?_
   rotate_left
   ·go_big_quiet_op
    exact hK
   refine hoist [] [] (a1 := ?_) 4 rfl (by kernel_rfl) (.inl ⟨rfl, rfl⟩) rfl rfl rfl (fun x K hK => ?_) ?_
   rotate_left
   ·go_big_quiet_op
    exact hK
   refine hoist [] [] (a1 := ?_) 5 rfl (by kernel_rfl) (.inl ⟨rfl, rfl⟩) rfl rfl rfl (fun x K hK => ?_) ?_
   rotate_left
   ·go_big_quiet_op
    exact hK
   refine hoist [] [] (a1 := ?_) 6 rfl (by kernel_rfl) (.inl ⟨rfl, rfl⟩) rfl rfl rfl (fun x K hK => ?_) ?_
   rotate_left
   ·go_big_quiet_op
    exact hK
   refine hoist [] [] (a1 := ?_) 7 rfl (by kernel_rfl) (.inl ⟨rfl, rfl⟩) rfl rfl rfl (fun x K hK => ?_) ?_
   rotate_left
   ·go_big_quiet_op
    exact hK
   refine hoist [] [] (a1 := ?_) 9 rfl (by kernel_rfl) (.inl ⟨rfl, rfl⟩) rfl rfl rfl (fun x K hK => ?_) ?_
   rotate_left
   ·go_big_quiet_op
    exact hK
   refine hoist [] [] (a1 := ?_) 10 rfl (by kernel_rfl) (.inl ⟨rfl, rfl⟩) rfl rfl rfl (fun x K hK => ?_) ?_
   rotate_left
   ·go_big_quiet_op
    exact hK
   refine hoist [] [] (a1 := ?_) 11 rfl (by kernel_rfl) (.inl ⟨rfl, rfl⟩) rfl rfl rfl (fun x K hK => ?_) ?_
   rotate_left
   ·go_big_quiet_op
    exact hK
   refine hoist [] [] (a1 := ?_) 12 rfl (by kernel_rfl) (.inl ⟨rfl, rfl⟩) rfl rfl rfl (fun x K hK => ?_) ?_
   rotate_left
   ·go_big_quiet_op
    exact hK
   refine hoist [] [] (a1 := ?_) 13 rfl (by kernel_rfl) (.inl ⟨rfl, rfl⟩) rfl rfl rfl (fun x K hK => ?_) ?_
   rotate_left
   ·go_big_quiet_op
    exact hK
   refine hoist [] [] (a1 := ?_) 14 rfl (by kernel_rfl) (.inl ⟨rfl, rfl⟩) rfl rfl rfl (fun x K hK => ?_) ?_
   rotate_left
   ·go_big_quiet_op
    exact hK
   refine hoist [] [] (a1 := ?_) 15 rfl (by kernel_rfl) (.inl ⟨rfl, rfl⟩) rfl rfl rfl (fun x K hK => ?_) ?_
   rotate_left
   ·go_big_quiet_op
    exact hK
   refine effect 8 rfl (by kernel_rfl) (by kernel_rfl) rfl (fun x8 K hK => ?_)
   go_simp
   have hx0 := x8.bw
   have hz0 := (B.out.trans hx0).size
   refine Calls.mono (rpw_ok _ (nj) (X) 4 (e0) 4 (by decide) (by decide) rfl (by omega) (by omega) x8.now (O.out.bw hx0).sb) ?_
   rintro e w'8 ⟨s8, c8, rfl, hc8, O1, hb⟩
   refine hK _ _ (hb.still _) ?_
   clear hK K
   replace B := Lib.hid ((B.out.trans hx0).trans hb)
   replace O := Lib.hid (O1.up hz0)
   try replace BX5 := Lib.hid ((BX5.out.trans hx0).trans hb)
   clear hx0 hz0 O1 hb
   try simp only [Act.put, List.setIfInBounds_toArray, List.set_cons_succ, List.set_cons_zero]
   refine effect 16 rfl (by kernel_rfl) (by kernel_rfl) rfl (fun x16 K hK => ?_)
   go_simp
   have hx0 := x16.bw
   have hz0 := (B.out.trans hx0).size
   refine Calls.mono (rpw_ok _ (nj + 4) (X ++ putB 4 e0) 1 (e1') 1 (by decide) (by decide) rfl (by omega) (by omega) x16.now (O.out.bw hx0).sb) ?_
   rintro e w'16 ⟨s16, c16, rfl, hc16, O1, hb⟩
   refine hK _ _ (hb.still _) ?_
   clear hK K
   replace B := Lib.hid ((B.out.trans hx0).trans hb)
   replace O := Lib.hid (O1.up hz0)
   try replace BX5 := Lib.hid ((BX5.out.trans hx0).trans hb)
   clear hx0 hz0 O1 hb
   try simp only [Act.put, List.setIfInBounds_toArray, List.set_cons_succ, List.set_cons_zero]
   refine effect 17 rfl (by kernel_rfl) (by kernel_rfl) rfl (fun x17 K hK => ?_)
   go_simp
   have hx0 := x17.bw
   have hz0 := (B.out.trans hx0).size
   refine Calls.mono (rpw_ok _ (nj + 4 + 1) ((X ++ putB 4 e0) ++ putB 1 e1') 3 (0) 3 (by decide) (by decide) rfl (by omega) (by omega) x17.now (O.out.bw hx0).sb) ?_
   rintro e w'17 ⟨s17, c17, rfl, hc17, O1, hb⟩
   refine hK _ _ (hb.still _) ?_
   clear hK K
   replace B := Lib.hid ((B.out.trans hx0).trans hb)
   replace O := Lib.hid (O1.up hz0)
   try replace BX5 := Lib.hid ((BX5.out.trans hx0).trans hb)
   clear hx0 hz0 O1 hb
   try simp only [Act.put, List.setIfInBounds_toArray, List.set_cons_succ, List.set_cons_zero]
   refine tail 18 rfl (by kernel_rfl) rfl (fun xr => ?_)
   simp only [List.drop_succ_cons, List.drop_zero]
   replace B := Lib.hid (B.out.trans xr.bw)
   replace O := Lib.hid (O.out.bw xr.bw)
   clear m11 y0 y1
   generalize xr.now = w6 at *
   go_wp2_with fail
   go_roundg (nf - (j + 1))
   case measure => omega
   case rel =>
    have hn9 := hnj.out
    obtain ⟨h1, h2⟩ := hc17
    refine ⟨j + 1, s17, c17, rfl, by omega, ?_, by omega, by omega, by push_cast; rfl, ?_, B⟩
    ·rw [show n1 + 8 * (j + 1) = nj + 4 + 1 + 3 by omega]
    ·rw [show n1 + 8 * (j + 1) = nj + 4 + 1 + 3 by omega, hfin.out]; exact O
  ·obtain rfl : j = nf := by omega
   have d : decide ((j : Int) < (j : Int)) = false := by simp
   have hbo : Hid (bw = ((((A ++ firB (firs.take j)) ++ repsB reps) ++ namsB nams) ++ wordsB srcs)) := by
    show _ = _
    rw [← hBw.out, hL9.out, ← hA.out, hR0.out, hN0.out, hS0.out]
    simp [bodyW, wordsB, namsB, repsB]
   have hho : Hid (hd = (206, 4)) := by show _ = _; rw [← hHd.out]; simp [hdrW]
   generalize A ++ firB (firs.take j) = X at *
   clear hL9 hst hA
   go_wp2_with fail
   refine hK.out X s1 c1 (n1 + 8 * j) 206 4 rfl rfl hc5 hc6 (by omega) (by omega) hho.out hbo.out O.out B.out
set_option maxRecDepth 100000 in
set_option maxHeartbeats 8000000 in
theorem sw_4 {K : Act → World → Prop} {Q : Exit → Act → World → Prop} (s m t st pk oc rt : Nat) (ar an as_ al af : Option Addr) (nr nn ns nl nf cr cn cs cl_ cf : Nat) (reps : List Rep) (nams : List (Nat × List Nat)) (srcs : List Nat) (loss firs : List (Nat × Nat)) (mn ex q gp n0 cb : Nat) (sb : Option Addr) (L0 : List Nat) (hd : Nat × Nat) (bw : List Nat) (l1 : Hid (reps.length = nr)) (l2 : Hid (nams.length = nn)) (l3 : Hid (srcs.length = ns)) (l4 : Hid (loss.length = nl)) (l5 : Hid (firs.length = nf)) (b2 : s < 4294967296) (b3 : m < 4294967296) (b4 : t < 18446744073709551616) (b5 : st < 4294967296) (b6 : pk < 4294967296) (b7 : oc < 4294967296) (b12 : Hid (∀ p ∈ loss, p.1 < 65536 ∧ p.2 < 65536)) (b13 : Hid (∀ p ∈ firs, p.1 < 4294967296 ∧ p.2 < 256)) (q1 : nr ≤ 100) (q2 : nn ≤ 100) (q3 : ns ≤ 100) (q4 : nl ≤ 100) (q5 : nf ≤ 100) (hml : (mn : Int) ≤ 262143) (hel : (ex : Int) ≤ 46) (hql : Hid (q < 18446744073709551616)) (hq : Hid (ex * 262144 + mn = q)) (hRB : Hid (rembB s rt srcs = (((wordsB [s, 0] ++ [82, 69, 77, 66]) ++ putB 1 srcs.length) ++ putB 3 q) ++ wordsB srcs)) (e1 : Hid ((4 : Int) = 200 ∨ (4 : Int) = 201 → nn = 0 ∧ ns = 0)) (e2 : Hid ((4 : Int) = 202 → nr = 0 ∧ ns = 0)) (e3 : Hid ((4 : Int) = 203 → nr = 0 ∧ nn = 0)) (e4 : Hid ((4 : Int) = 1 ∨ (4 : Int) = 2 ∨ (4 : Int) = 3 → nr = 0 ∧ nn = 0 ∧ ns = 0)) (e5 : Hid ((4 : Int) = 4 → nr = 0 ∧ nn = 0 ∧ ns ≤ 16)) (hHd : Hid (hdrW ⟨(4 : Int), s, m, t, st, pk, oc, reps, nams, srcs, loss, firs, rt⟩ = hd)) (hBw : Hid (bodyW ⟨(4 : Int), s, m, t, st, pk, oc, reps, nams, srcs, loss, firs, rt⟩ = bw)) (hL0 : Hid ((if (4 : Int) = 202 ∨ (4 : Int) = 203 then [] else putB 4 s) = L0)) (hn0 : n0 ≤ 4) (hm0 : n0 % 4 = 0) (hc0 : n0 ≤ cb) (hc1 : cb ≤ 9223372036854775807) (w1 w3 : World) (r4 : Hid (SQ EO w1 0 (.slice al nl cl_) nl loss)) (r5 : Hid (SQ EF w1 0 (.slice af nf cf) nf firs)) (P : Hid (HpB w1 gp (.cells #[.int .i64 (4 : Int), .int .u32 (s : Nat), .int .u32 (m : Nat), .int .u64 (t : Nat), .int .u32 (st : Nat), .int .u32 (pk : Nat), .int .u32 (oc : Nat), .slice ar nr cr, .slice an nn cn, .slice as_ ns cs, .slice al nl cl_, .slice af nf cf, .int .u64 (rt : Nat)] 111))) (O : Hid (OB w3 w1.heap.size 5 (.slice sb n0 cb) n0 L0)) (B : Hid (BW w1 w3)) (u0 u4 u5 u6 u10 u11 u12 u13 u14 u15 u16 u17 u18 u19 u20 u21 u22 u23 u24 u25 u26 u27 u28 u29 u30 u31 u32 u33 u34 u35 u36 u37 u38 u39 u40 u41 u42 u44 u45 u46 u47 u48 u49 u50 u51 u52 u53 u54 u55 u56 u57 u58 u59 u60 u61 u62 u63 u64 u65 u66 u67 u68 u69 u70 u71 u72 u73 u74 u75 u76 u77 u78 u79 u80 u81 u82 u83 u84 u85 u86 u87 u88 u89 u90 u91 u92 u93 u94 u95 u96 u97 u98 u99 u100 u101 u102 u103 u104 u105 u106 u107 u108 u109 u110 u111 u112 u113 u114 u115 u116 u117 u118 u119 u120 u121 u122 u123 u124 u125 u126 u127 u128 u129 u130 u131 u132 u133 u134 u135 u136 u137 u138 u139 u140 u141 u142 u143 u144 u145 u146 u147 u148 u149 u150 u151 u152 u153 u154 u155 u156 u157 u158 u159 u160 u161 u162 u163 u164 u165 u166 u167 u168 u169 u170 u171 u172 u173 u174 u175 u176 u177 u178 u179 u180 u181 u182 u183 u184 u185 u186 u187 u188 u189 u190 u191 u192 u193 u194 u195 u196 u197 u198 u199 u200 u201 u202 u203 u204 u205 u206 u207 u208 u209 u210 u211 u212 u213 u214 u215 u216 u217 u218 u219 u220 u221 u222 u223 u224 u225 u226 u227 u228 u229 u230 u231 u232 u233 u234 u235 u236 u237 u238 u239 u240 u241 u242 u243 u244 u245 u246 u247 u248 u249 u250 u251 u252 u253 u254 u255 u256 u257 u258 u259 u260 u261 u262 u263 u264 : Value) (hK : Hid (∀ (L : List Nat) (sb' : Option Addr) (cb' n typ cnt : Nat) {y10 y11 y44 y45 y46 y47 y48 y49 y50 y51 y52 y53 y54 y55 y56 y57 y58 y59 y60 y61 y62 y63 y64 y65 y66 y67 y68 y69 y70 y71 y72 y73 y74 y75 y76 y77 y78 y79 y80 y81 y82 y83 y84 y85 y86 y87 y88 y89 y90 y91 y92 y93 y94 y95 y96 y97 y98 y99 y100 y101 y102 y103 y104 y105 y106 y107 y108 y109 y110 y111 y112 y113 y114 y115 y116 y117 y118 y119 y120 y121 y122 y123 y124 y125 y126 y127 y128 y129 y130 y131 y132 y133 y134 y135 y136 y137 y138 y139 y140 y141 y142 y143 y144 y145 y146 vt vc : Value} {wc : World}, vt = .int .i64 (typ : Nat) → vc = .int .i64 (cnt : Nat) → n ≤ cb' → cb' ≤ 9223372036854775807 → n ≤ 900 → n % 4 = 0 → hd = (typ, cnt) → bw = ((L ++ repsB reps) ++ namsB nams) ++ wordsB srcs → OB wc w1.heap.size 5 (.slice sb' n cb') n L → BW w1 wc → K ⟨#[u0, .int .u64 (mn : Nat), .int .i64 (ex : Nat), .pointer (some ⟨gp, 0, none⟩), u4, u5, u6, .slice sb' n cb', vt, vc, y10, y11, u12, u13, u14, u15, u16, u17, u18, u19, u20, u21, u22, u23, u24, u25, u26, u27, u28, u29, u30, u31, u32, u33, u34, u35, u36, u37, u38, u39, u40, u41, u42, .int .i64 4, y44, y45, y46, y47, y48, y49, y50, y51, y52, y53, y54, y55, y56, y57, y58, y59, y60, y61, y62, y63, y64, y65, y66, y67, y68, y69, y70, y71, y72, y73, y74, y75, y76, y77, y78, y79, y80, y81, y82, y83, y84, y85, y86, y87, y88, y89, y90, y91, y92, y93, y94, y95, y96, y97, y98, y99, y100, y101, y102, y103, y104, y105, y106, y107, y108, y109, y110, y111, y112, y113, y114, y115, y116, y117, y118, y119, y120, y121, y122, y123, y124, y125, y126, y127, y128, y129, y130, y131, y132, y133, y134, y135, y136, y137, y138, y139, y140, y141, y142, y143, y144, y145, y146, u147, u148, u149, u150, u151, u152, u153, u154, u155, u156, u157, u158, u159, u160, u161, u162, u163, u164, u165, u166, u167, u168, u169, u170, u171, u172, u173, u174, u175, u176, u177, u178, u179, u180, u181, u182, u183, u184, u185, u186, u187, u188, u189, u190, u191, u192, u193, u194, u195, u196, u197, u198, u199, u200, u201, u202, u203, u204, u205, u206, u207, u208, u209, u210, u211, u212, u213, u214, u215, u216, u217, u218, u219, u220, u221, u222, u223, u224, u225, u226, u227, u228, u229, u230, u231, u232, u233, u234, u235, u236, u237, u238, u239, u240, u241, u242, u243, u244, u245, u246, u247, u248, u249, u250, u251, u252, u253, u254, u255, u256, u257, u258, u259, u260, u261, u262, u263, u264], []⟩ wc)) :
  Code.wp Try.prog oneSw (Exit.then K Q) ⟨#[u0, .int .u64 (mn : Nat), .int .i64 (ex : Nat), .pointer (some ⟨gp, 0, none⟩), u4, u5, u6, .slice sb n0 cb, .int .i64 4, .int .i64 ((nr : Int) + (nn : Int) + (ns : Int)), u10, u11, u12, u13, u14, u15, u16, u17, u18, u19, u20, u21, u22, u23, u24, u25, u26, u27, u28, u29, u30, u31, u32, u33, u34, u35, u36, u37, u38, u39, u40, u41, u42, .int .i64 4, u44, u45, u46, u47, u48, u49, u50, u51, u52, u53, u54, u55, u56, u57, u58, u59, u60, u61, u62, u63, u64, u65, u66, u67, u68, u69, u70, u71, u72, u73, u74, u75, u76, u77, u78, u79, u80, u81, u82, u83, u84, u85, u86, u87, u88, u89, u90, u91, u92, u93, u94, u95, u96, u97, u98, u99, u100, u101, u102, u103, u104, u105, u106, u107, u108, u109, u110, u111, u112, u113, u114, u115, u116, u117, u118, u119, u120, u121, u122, u123, u124, u125, u126, u127, u128, u129, u130, u131, u132, u133, u134, u135, u136, u137, u138, u139, u140, u141, u142, u143, u144, u145, u146, u147, u148, u149, u150, u151, u152, u153, u154, u155, u156, u157, u158, u159, u160, u161, u162, u163, u164, u165, u166, u167, u168, u169, u170, u171, u172, u173, u174, u175, u176, u177, u178, u179, u180, u181, u182, u183, u184, u185, u186, u187, u188, u189, u190, u191, u192, u193, u194, u195, u196, u197, u198, u199, u200, u201, u202, u203, u204, u205, u206, u207, u208, u209, u210, u211, u212, u213, u214, u215, u216, u217, u218, u219, u220, u221, u222, u223, u224, u225, u226, u227, u228, u229, u230, u231, u232, u233, u234, u235, u236, u237, u238, u239, u240, u241, u242, u243, u244, u245, u246, u247, u248, u249, u250, u251, u252, u253, u254, u255, u256, u257, u258, u259, u260, u261, u262, u263, u264], []⟩ w3 := by
 conv => arg 2; whnf
 obtain ⟨z1, z2, z3⟩ := e5.out rfl
 have hR0 : reps = [] := List.eq_nil_of_length_eq_zero (by rw [l1.out]; exact z1)
 have hN0 : nams = [] := List.eq_nil_of_length_eq_zero (by rw [l2.out]; exact z2)
 replace hR0 := Lib.hid hR0
 replace hN0 := Lib.hid hN0
 clear z1 z2
 have hL := hL0.out
 rw [if_neg (by decide)] at hL
 subst hL
 have c4' := Lib.hid (rpw_ok (.slice sb n0 cb) n0 (putB 4 s) 4 0 4 (by decide) (by decide) rfl (by omega) (by omega) w3 O.out.sb)
 go_wp2_with fail
 refine Calls.mono c4'.out ?_
 rintro e w4 ⟨s4, c4, rfl, hc4, O4, hb⟩
 replace O4 := Lib.hid (O4.up B.out.size)
 replace B := Lib.hid (B.out.trans hb)
 clear hb c4' O
 have O := O4
 clear O4
 generalize hn1 : n0 + 4 = n1 at *
 have hn1l : n1 ≤ 8 := by omega
 have hn1m : n1 % 4 = 0 := by omega
 replace hn1 := Lib.hid hn1
 dsimp only
 have hn16 : (ns : Int) ≤ 16 := by omega
 have z9 := (hp_cell (P.out.bw B.out) 9).trans (show _ = some (.slice as_ ns cs) from rfl)
 generalize hA : putB 4 s ++ putB 4 0 = A at *
 replace hA := Lib.hid hA
 go_upto_region 32 with (fail)
 have L5 := Lib.hid (AvB.new w4 5 [82, 69, 77, 66, ns])
 have X5 := Lib.hid (L5.out.sb (by intro x hx; simp at hx; omega) 5 rfl (by decide))
 go_wp2_with (at_builtin; go_must (refine wpList_apOB rfl _ _ rfl w1.heap.size _ _ _ rfl ((O.out.bw ((BW.refl w4).alloc))) _ rfl _ _ (X5.out) (by omega) (BW.trans B.out (by repeat (first | exact BW.refl _ | apply BW.alloc | apply BW.drewN | apply BW.drew))).size ?_; intro s5 c5 w5 hcc5 hmc5 O5 hT hb hG; unfold maxLen at hmc5; replace hG := Lib.hid hG; replace hT := Lib.hid hT; skip))
 replace B := Lib.hid (BW.step (BW.trans B.out (by repeat (first | exact BW.refl _ | apply BW.alloc | apply BW.drewN | apply BW.drew))) hb (Nat.le_refl _))
 replace O5 := Lib.hid O5
 clear hb
 clear hT hG X5 L5 O
 have e33 : (ex : Int) * 262144 + (mn : Int) = ((q : Nat) : Int) := by have := hq.out; omega
 have c6 := rpw_ok (.slice s5 (n1 + 5) c5) (n1 + 5) (A ++ [82, 69, 77, 66, ns]) 3 q 3 (by decide) (by decide) rfl hql.out (by omega) w5
 rw [← e33] at c6
 replace c6 := Lib.hid c6
 clear z9 e33
 go_wp2_with fail
 refine Calls.mono (c6.out O5.out.sb) ?_
 rintro e w6 ⟨s6, c6', rfl, hc6, O6, hb6⟩
 replace O6 := Lib.hid (O6.up B.out.size)
 replace B := Lib.hid (B.out.trans hb6)
 clear hb6 c6 O5
 dsimp only
 have hbo : Hid (bw = (((((A ++ [82, 69, 77, 66, ns]) ++ putB 3 q) ++ repsB reps) ++ namsB nams) ++ wordsB srcs)) := by
  show _ = _
  rw [← hBw.out]
  have h1 : bodyW ⟨4, s, m, t, st, pk, oc, reps, nams, srcs, loss, firs, rt⟩ = rembB s rt srcs := by simp [bodyW]
  rw [h1, hRB.out, ← hA.out, hR0.out, hN0.out, put1 _ (by rw [l3.out]; omega), l3.out]
  simp [wordsB, namsB, repsB]
 have hho : Hid (hd = (206, 15)) := by show _ = _; rw [← hHd.out]; simp [hdrW]
 go_wp2_with fail
 refine hK.out _ s6 c6' (n1 + 5 + 3) 206 15 rfl rfl hc6.1 hc6.2 (by omega) (by omega) hho.out hbo.out O6.out B.out
theorem one_sw {K : Act → World → Prop} {Q : Exit → Act → World → Prop} (k : Int) (hk : isKind k = true) (s m t st pk oc rt : Nat) (ar an as_ al af : Option Addr) (nr nn ns nl nf cr cn cs cl_ cf : Nat) (reps : List Rep) (nams : List (Nat × List Nat)) (srcs : List Nat) (loss firs : List (Nat × Nat)) (mn ex q gp n0 cb : Nat) (sb : Option Addr) (L0 : List Nat) (hd : Nat × Nat) (bw : List Nat) (l1 : Hid (reps.length = nr)) (l2 : Hid (nams.length = nn)) (l3 : Hid (srcs.length = ns)) (l4 : Hid (loss.length = nl)) (l5 : Hid (firs.length = nf)) (b2 : s < 4294967296) (b3 : m < 4294967296) (b4 : t < 18446744073709551616) (b5 : st < 4294967296) (b6 : pk < 4294967296) (b7 : oc < 4294967296) (b12 : Hid (∀ p ∈ loss, p.1 < 65536 ∧ p.2 < 65536)) (b13 : Hid (∀ p ∈ firs, p.1 < 4294967296 ∧ p.2 < 256)) (q1 : nr ≤ 100) (q2 : nn ≤ 100) (q3 : ns ≤ 100) (q4 : nl ≤ 100) (q5 : nf ≤ 100) (hml : (mn : Int) ≤ 262143) (hel : (ex : Int) ≤ 46) (hql : Hid (q < 18446744073709551616)) (hq : Hid (ex * 262144 + mn = q)) (hRB : Hid (rembB s rt srcs = (((wordsB [s, 0] ++ [82, 69, 77, 66]) ++ putB 1 srcs.length) ++ putB 3 q) ++ wordsB srcs)) (e1 : Hid (k = 200 ∨ k = 201 → nn = 0 ∧ ns = 0)) (e2 : Hid (k = 202 → nr = 0 ∧ ns = 0)) (e3 : Hid (k = 203 → nr = 0 ∧ nn = 0)) (e4 : Hid (k = 1 ∨ k = 2 ∨ k = 3 → nr = 0 ∧ nn = 0 ∧ ns = 0)) (e5 : Hid (k = 4 → nr = 0 ∧ nn = 0 ∧ ns ≤ 16)) (hHd : Hid (hdrW ⟨k, s, m, t, st, pk, oc, reps, nams, srcs, loss, firs, rt⟩ = hd)) (hBw : Hid (bodyW ⟨k, s, m, t, st, pk, oc, reps, nams, srcs, loss, firs, rt⟩ = bw)) (hL0 : Hid ((if k = 202 ∨ k = 203 then [] else putB 4 s) = L0)) (hn0 : n0 ≤ 4) (hm0 : n0 % 4 = 0) (hc0 : n0 ≤ cb) (hc1 : cb ≤ 9223372036854775807) (w1 w3 : World) (r4 : Hid (SQ EO w1 0 (.slice al nl cl_) nl loss)) (r5 : Hid (SQ EF w1 0 (.slice af nf cf) nf firs)) (P : Hid (HpB w1 gp (.cells #[.int .i64 k, .int .u32 (s : Nat), .int .u32 (m : Nat), .int .u64 (t : Nat), .int .u32 (st : Nat), .int .u32 (pk : Nat), .int .u32 (oc : Nat), .slice ar nr cr, .slice an nn cn, .slice as_ ns cs, .slice al nl cl_, .slice af nf cf, .int .u64 (rt : Nat)] 111))) (O : Hid (OB w3 w1.heap.size 5 (.slice sb n0 cb) n0 L0)) (B : Hid (BW w1 w3)) (u0 u4 u5 u6 u10 u11 u12 u13 u14 u15 u16 u17 u18 u19 u20 u21 u22 u23 u24 u25 u26 u27 u28 u29 u30 u31 u32 u33 u34 u35 u36 u37 u38 u39 u40 u41 u42 u44 u45 u46 u47 u48 u49 u50 u51 u52 u53 u54 u55 u56 u57 u58 u59 u60 u61 u62 u63 u64 u65 u66 u67 u68 u69 u70 u71 u72 u73 u74 u75 u76 u77 u78 u79 u80 u81 u82 u83 u84 u85 u86 u87 u88 u89 u90 u91 u92 u93 u94 u95 u96 u97 u98 u99 u100 u101 u102 u103 u104 u105 u106 u107 u108 u109 u110 u111 u112 u113 u114 u115 u116 u117 u118 u119 u120 u121 u122 u123 u124 u125 u126 u127 u128 u129 u130 u131 u132 u133 u134 u135 u136 u137 u138 u139 u140 u141 u142 u143 u144 u145 u146 u147 u148 u149 u150 u151 u152 u153 u154 u155 u156 u157 u158 u159 u160 u161 u162 u163 u164 u165 u166 u167 u168 u169 u170 u171 u172 u173 u174 u175 u176 u177 u178 u179 u180 u181 u182 u183 u184 u185 u186 u187 u188 u189 u190 u191 u192 u193 u194 u195 u196 u197 u198 u199 u200 u201 u202 u203 u204 u205 u206 u207 u208 u209 u210 u211 u212 u213 u214 u215 u216 u217 u218 u219 u220 u221 u222 u223 u224 u225 u226 u227 u228 u229 u230 u231 u232 u233 u234 u235 u236 u237 u238 u239 u240 u241 u242 u243 u244 u245 u246 u247 u248 u249 u250 u251 u252 u253 u254 u255 u256 u257 u258 u259 u260 u261 u262 u263 u264 : Value) (hK : Hid (∀ (L : List Nat) (sb' : Option Addr) (cb' n typ cnt : Nat) {y10 y11 y44 y45 y46 y47 y48 y49 y50 y51 y52 y53 y54 y55 y56 y57 y58 y59 y60 y61 y62 y63 y64 y65 y66 y67 y68 y69 y70 y71 y72 y73 y74 y75 y76 y77 y78 y79 y80 y81 y82 y83 y84 y85 y86 y87 y88 y89 y90 y91 y92 y93 y94 y95 y96 y97 y98 y99 y100 y101 y102 y103 y104 y105 y106 y107 y108 y109 y110 y111 y112 y113 y114 y115 y116 y117 y118 y119 y120 y121 y122 y123 y124 y125 y126 y127 y128 y129 y130 y131 y132 y133 y134 y135 y136 y137 y138 y139 y140 y141 y142 y143 y144 y145 y146 vt vc : Value} {wc : World}, vt = .int .i64 (typ : Nat) → vc = .int .i64 (cnt : Nat) → n ≤ cb' → cb' ≤ 9223372036854775807 → n ≤ 900 → n % 4 = 0 → hd = (typ, cnt) → bw = ((L ++ repsB reps) ++ namsB nams) ++ wordsB srcs → OB wc w1.heap.size 5 (.slice sb' n cb') n L → BW w1 wc → K ⟨#[u0, .int .u64 (mn : Nat), .int .i64 (ex : Nat), .pointer (some ⟨gp, 0, none⟩), u4, u5, u6, .slice sb' n cb', vt, vc, y10, y11, u12, u13, u14, u15, u16, u17, u18, u19, u20, u21, u22, u23, u24, u25, u26, u27, u28, u29, u30, u31, u32, u33, u34, u35, u36, u37, u38, u39, u40, u41, u42, .int .i64 k, y44, y45, y46, y47, y48, y49, y50, y51, y52, y53, y54, y55, y56, y57, y58, y59, y60, y61, y62, y63, y64, y65, y66, y67, y68, y69, y70, y71, y72, y73, y74, y75, y76, y77, y78, y79, y80, y81, y82, y83, y84, y85, y86, y87, y88, y89, y90, y91, y92, y93, y94, y95, y96, y97, y98, y99, y100, y101, y102, y103, y104, y105, y106, y107, y108, y109, y110, y111, y112, y113, y114, y115, y116, y117, y118, y119, y120, y121, y122, y123, y124, y125, y126, y127, y128, y129, y130, y131, y132, y133, y134, y135, y136, y137, y138, y139, y140, y141, y142, y143, y144, y145, y146, u147, u148, u149, u150, u151, u152, u153, u154, u155, u156, u157, u158, u159, u160, u161, u162, u163, u164, u165, u166, u167, u168, u169, u170, u171, u172, u173, u174, u175, u176, u177, u178, u179, u180, u181, u182, u183, u184, u185, u186, u187, u188, u189, u190, u191, u192, u193, u194, u195, u196, u197, u198, u199, u200, u201, u202, u203, u204, u205, u206, u207, u208, u209, u210, u211, u212, u213, u214, u215, u216, u217, u218, u219, u220, u221, u222, u223, u224, u225, u226, u227, u228, u229, u230, u231, u232, u233, u234, u235, u236, u237, u238, u239, u240, u241, u242, u243, u244, u245, u246, u247, u248, u249, u250, u251, u252, u253, u254, u255, u256, u257, u258, u259, u260, u261, u262, u263, u264], []⟩ wc)) :
  Code.wp Try.prog oneSw (Exit.then K Q) ⟨#[u0, .int .u64 (mn : Nat), .int .i64 (ex : Nat), .pointer (some ⟨gp, 0, none⟩), u4, u5, u6, .slice sb n0 cb, .int .i64 k, .int .i64 ((nr : Int) + (nn : Int) + (ns : Int)), u10, u11, u12, u13, u14, u15, u16, u17, u18, u19, u20, u21, u22, u23, u24, u25, u26, u27, u28, u29, u30, u31, u32, u33, u34, u35, u36, u37, u38, u39, u40, u41, u42, .int .i64 k, u44, u45, u46, u47, u48, u49, u50, u51, u52, u53, u54, u55, u56, u57, u58, u59, u60, u61, u62, u63, u64, u65, u66, u67, u68, u69, u70, u71, u72, u73, u74, u75, u76, u77, u78, u79, u80, u81, u82, u83, u84, u85, u86, u87, u88, u89, u90, u91, u92, u93, u94, u95, u96, u97, u98, u99, u100, u101, u102, u103, u104, u105, u106, u107, u108, u109, u110, u111, u112, u113, u114, u115, u116, u117, u118, u119, u120, u121, u122, u123, u124, u125, u126, u127, u128, u129, u130, u131, u132, u133, u134, u135, u136, u137, u138, u139, u140, u141, u142, u143, u144, u145, u146, u147, u148, u149, u150, u151, u152, u153, u154, u155, u156, u157, u158, u159, u160, u161, u162, u163, u164, u165, u166, u167, u168, u169, u170, u171, u172, u173, u174, u175, u176, u177, u178, u179, u180, u181, u182, u183, u184, u185, u186, u187, u188, u189, u190, u191, u192, u193, u194, u195, u196, u197, u198, u199, u200, u201, u202, u203, u204, u205, u206, u207, u208, u209, u210, u211, u212, u213, u214, u215, u216, u217, u218, u219, u220, u221, u222, u223, u224, u225, u226, u227, u228, u229, u230, u231, u232, u233, u234, u235, u236, u237, u238, u239, u240, u241, u242, u243, u244, u245, u246, u247, u248, u249, u250, u251, u252, u253, u254, u255, u256, u257, u258, u259, u260, u261, u262, u263, u264], []⟩ w3 := by
 rcases isKind_cases hk with rfl | rfl | rfl | rfl | rfl | rfl | rfl | rfl
 ·exact sw_200 s m t st pk oc rt ar an as_ al af nr nn ns nl nf cr cn cs cl_ cf reps nams srcs loss firs mn ex q gp n0 cb sb L0 hd bw l1 l2 l3 l4 l5 b2 b3 b4 b5 b6 b7 b12 b13 q1 q2 q3 q4 q5 hml hel hql hq hRB e1 e2 e3 e4 e5 hHd hBw hL0 hn0 hm0 hc0 hc1 w1 w3 r4 r5 P O B u0 u4 u5 u6 u10 u11 u12 u13 u14 u15 u16 u17 u18 u19 u20 u21 u22 u23 u24 u25 u26 u27 u28 u29 u30 u31 u32 u33 u34 u35 u36 u37 u38 u39 u40 u41 u42 u44 u45 u46 u47 u48 u49 u50 u51 u52 u53 u54 u55 u56 u57 u58 u59 u60 u61 u62 u63 u64 u65 u66 u67 u68 u69 u70 u71 u72 u73 u74 u75 u76 u77 u78 u79 u80 u81 u82 u83 u84 u85 u86 u87 u88 u89 u90 u91 u92 u93 u94 u95 u96 u97 u98 u99 u100 u101 u102 u103 u104 u105 u106 u107 u108 u109 u110 u111 u112 u113 u114 u115 u116 u117 u118 u119 u120 u121 u122 u123 u124 u125 u126 u127 u128 u129 u130 u131 u132 u133 u134 u135 u136 u137 u138 u139 u140 u141 u142 u143 u144 u145 u146 u147 u148 u149 u150 u151 u152 u153 u154 u155 u156 u157 u158 u159 u160 u161 u162 u163 u164 u165 u166 u167 u168 u169 u170 u171 u172 u173 u174 u175 u176 u177 u178 u179 u180 u181 u182 u183 u184 u185 u186 u187 u188 u189 u190 u191 u192 u193 u194 u195 u196 u197 u198 u199 u200 u201 u202 u203 u204 u205 u206 u207 u208 u209 u210 u211 u212 u213 u214 u215 u216 u217 u218 u219 u220 u221 u222 u223 u224 u225 u226 u227 u228 u229 u230 u231 u232 u233 u234 u235 u236 u237 u238 u239 u240 u241 u242 u243 u244 u245 u246 u247 u248 u249 u250 u251 u252 u253 u254 u255 u256 u257 u258 u259 u260 u261 u262 u263 u264 hK
 ·exact sw_201 s m t st pk oc rt ar an as_ al af nr nn ns nl nf cr cn cs cl_ cf reps nams srcs loss firs mn ex q gp n0 cb sb L0 hd bw l1 l2 l3 l4 l5 b2 b3 b4 b5 b6 b7 b12 b13 q1 q2 q3 q4 q5 hml hel hql hq hRB e1 e2 e3 e4 e5 hHd hBw hL0 hn0 hm0 hc0 hc1 w1 w3 r4 r5 P O B u0 u4 u5 u6 u10 u11 u12 u13 u14 u15 u16 u17 u18 u19 u20 u21 u22 u23 u24 u25 u26 u27 u28 u29 u30 u31 u32 u33 u34 u35 u36 u37 u38 u39 u40 u41 u42 u44 u45 u46 u47 u48 u49 u50 u51 u52 u53 u54 u55 u56 u57 u58 u59 u60 u61 u62 u63 u64 u65 u66 u67 u68 u69 u70 u71 u72 u73 u74 u75 u76 u77 u78 u79 u80 u81 u82 u83 u84 u85 u86 u87 u88 u89 u90 u91 u92 u93 u94 u95 u96 u97 u98 u99 u100 u101 u102 u103 u104 u105 u106 u107 u108 u109 u110 u111 u112 u113 u114 u115 u116 u117 u118 u119 u120 u121 u122 u123 u124 u125 u126 u127 u128 u129 u130 u131 u132 u133 u134 u135 u136 u137 u138 u139 u140 u141 u142 u143 u144 u145 u146 u147 u148 u149 u150 u151 u152 u153 u154 u155 u156 u157 u158 u159 u160 u161 u162 u163 u164 u165 u166 u167 u168 u169 u170 u171 u172 u173 u174 u175 u176 u177 u178 u179 u180 u181 u182 u183 u184 u185 u186 u187 u188 u189 u190 u191 u192 u193 u194 u195 u196 u197 u198 u199 u200 u201 u202 u203 u204 u205 u206 u207 u208 u209 u210 u211 u212 u213 u214 u215 u216 u217 u218 u219 u220 u221 u222 u223 u224 u225 u226 u227 u228 u229 u230 u231 u232 u233 u234 u235 u236 u237 u238 u239 u240 u241 u242 u243 u244 u245 u246 u247 u248 u249 u250 u251 u252 u253 u254 u255 u256 u257 u258 u259 u260 u261 u262 u263 u264 hK
 ·exact sw_202 s m t st pk oc rt ar an as_ al af nr nn ns nl nf cr cn cs cl_ cf reps nams srcs loss firs mn ex q gp n0 cb sb L0 hd bw l1 l2 l3 l4 l5 b2 b3 b4 b5 b6 b7 b12 b13 q1 q2 q3 q4 q5 hml hel hql hq hRB e1 e2 e3 e4 e5 hHd hBw hL0 hn0 hm0 hc0 hc1 w1 w3 r4 r5 P O B u0 u4 u5 u6 u10 u11 u12 u13 u14 u15 u16 u17 u18 u19 u20 u21 u22 u23 u24 u25 u26 u27 u28 u29 u30 u31 u32 u33 u34 u35 u36 u37 u38 u39 u40 u41 u42 u44 u45 u46 u47 u48 u49 u50 u51 u52 u53 u54 u55 u56 u57 u58 u59 u60 u61 u62 u63 u64 u65 u66 u67 u68 u69 u70 u71 u72 u73 u74 u75 u76 u77 u78 u79 u80 u81 u82 u83 u84 u85 u86 u87 u88 u89 u90 u91 u92 u93 u94 u95 u96 u97 u98 u99 u100 u101 u102 u103 u104 u105 u106 u107 u108 u109 u110 u111 u112 u113 u114 u115 u116 u117 u118 u119 u120 u121 u122 u123 u124 u125 u126 u127 u128 u129 u130 u131 u132 u133 u134 u135 u136 u137 u138 u139 u140 u141 u142 u143 u144 u145 u146 u147 u148 u149 u150 u151 u152 u153 u154 u155 u156 u157 u158 u159 u160 u161 u162 u163 u164 u165 u166 u167 u168 u169 u170 u171 u172 u173 u174 u175 u176 u177 u178 u179 u180 u181 u182 u183 u184 u185 u186 u187 u188 u189 u190 u191 u192 u193 u194 u195 u196 u197 u198 u199 u200 u201 u202 u203 u204 u205 u206 u207 u208 u209 u210 u211 u212 u213 u214 u215 u216 u217 u218 u219 u220 u221 u222 u223 u224 u225 u226 u227 u228 u229 u230 u231 u232 u233 u234 u235 u236 u237 u238 u239 u240 u241 u242 u243 u244 u245 u246 u247 u248 u249 u250 u251 u252 u253 u254 u255 u256 u257 u258 u259 u260 u261 u262 u263 u264 hK
 ·exact sw_203 s m t st pk oc rt ar an as_ al af nr nn ns nl nf cr cn cs cl_ cf reps nams srcs loss firs mn ex q gp n0 cb sb L0 hd bw l1 l2 l3 l4 l5 b2 b3 b4 b5 b6 b7 b12 b13 q1 q2 q3 q4 q5 hml hel hql hq hRB e1 e2 e3 e4 e5 hHd hBw hL0 hn0 hm0 hc0 hc1 w1 w3 r4 r5 P O B u0 u4 u5 u6 u10 u11 u12 u13 u14 u15 u16 u17 u18 u19 u20 u21 u22 u23 u24 u25 u26 u27 u28 u29 u30 u31 u32 u33 u34 u35 u36 u37 u38 u39 u40 u41 u42 u44 u45 u46 u47 u48 u49 u50 u51 u52 u53 u54 u55 u56 u57 u58 u59 u60 u61 u62 u63 u64 u65 u66 u67 u68 u69 u70 u71 u72 u73 u74 u75 u76 u77 u78 u79 u80 u81 u82 u83 u84 u85 u86 u87 u88 u89 u90 u91 u92 u93 u94 u95 u96 u97 u98 u99 u100 u101 u102 u103 u104 u105 u106 u107 u108 u109 u110 u111 u112 u113 u114 u115 u116 u117 u118 u119 u120 u121 u122 u123 u124 u125 u126 u127 u128 u129 u130 u131 u132 u133 u134 u135 u136 u137 u138 u139 u140 u141 u142 u143 u144 u145 u146 u147 u148 u149 u150 u151 u152 u153 u154 u155 u156 u157 u158 u159 u160 u161 u162 u163 u164 u165 u166 u167 u168 u169 u170 u171 u172 u173 u174 u175 u176 u177 u178 u179 u180 u181 u182 u183 u184 u185 u186 u187 u188 u189 u190 u191 u192 u193 u194 u195 u196 u197 u198 u199 u200 u201 u202 u203 u204 u205 u206 u207 u208 u209 u210 u211 u212 u213 u214 u215 u216 u217 u218 u219 u220 u221 u222 u223 u224 u225 u226 u227 u228 u229 u230 u231 u232 u233 u234 u235 u236 u237 u238 u239 u240 u241 u242 u243 u244 u245 u246 u247 u248 u249 u250 u251 u252 u253 u254 u255 u256 u257 u258 u259 u260 u261 u262 u263 u264 hK
 ·exact sw_1 s m t st pk oc rt ar an as_ al af nr nn ns nl nf cr cn cs cl_ cf reps nams srcs loss firs mn ex q gp n0 cb sb L0 hd bw l1 l2 l3 l4 l5 b2 b3 b4 b5 b6 b7 b12 b13 q1 q2 q3 q4 q5 hml hel hql hq hRB e1 e2 e3 e4 e5 hHd hBw hL0 hn0 hm0 hc0 hc1 w1 w3 r4 r5 P O B u0 u4 u5 u6 u10 u11 u12 u13 u14 u15 u16 u17 u18 u19 u20 u21 u22 u23 u24 u25 u26 u27 u28 u29 u30 u31 u32 u33 u34 u35 u36 u37 u38 u39 u40 u41 u42 u44 u45 u46 u47 u48 u49 u50 u51 u52 u53 u54 u55 u56 u57 u58 u59 u60 u61 u62 u63 u64 u65 u66 u67 u68 u69 u70 u71 u72 u73 u74 u75 u76 u77 u78 u79 u80 u81 u82 u83 u84 u85 u86 u87 u88 u89 u90 u91 u92 u93 u94 u95 u96 u97 u98 u99 u100 u101 u102 u103 u104 u105 u106 u107 u108 u109 u110 u111 u112 u113 u114 u115 u116 u117 u118 u119 u120 u121 u122 u123 u124 u125 u126 u127 u128 u129 u130 u131 u132 u133 u134 u135 u136 u137 u138 u139 u140 u141 u142 u143 u144 u145 u146 u147 u148 u149 u150 u151 u152 u153 u154 u155 u156 u157 u158 u159 u160 u161 u162 u163 u164 u165 u166 u167 u168 u169 u170 u171 u172 u173 u174 u175 u176 u177 u178 u179 u180 u181 u182 u183 u184 u185 u186 u187 u188 u189 u190 u191 u192 u193 u194 u195 u196 u197 u198 u199 u200 u201 u202 u203 u204 u205 u206 u207 u208 u209 u210 u211 u212 u213 u214 u215 u216 u217 u218 u219 u220 u221 u222 u223 u224 u225 u226 u227 u228 u229 u230 u231 u232 u233 u234 u235 u236 u237 u238 u239 u240 u241 u242 u243 u244 u245 u246 u247 u248 u249 u250 u251 u252 u253 u254 u255 u256 u257 u258 u259 u260 u261 u262 u263 u264 hK
 ·exact sw_2 s m t st pk oc rt ar an as_ al af nr nn ns nl nf cr cn cs cl_ cf reps nams srcs loss firs mn ex q gp n0 cb sb L0 hd bw l1 l2 l3 l4 l5 b2 b3 b4 b5 b6 b7 b12 b13 q1 q2 q3 q4 q5 hml hel hql hq hRB e1 e2 e3 e4 e5 hHd hBw hL0 hn0 hm0 hc0 hc1 w1 w3 r4 r5 P O B u0 u4 u5 u6 u10 u11 u12 u13 u14 u15 u16 u17 u18 u19 u20 u21 u22 u23 u24 u25 u26 u27 u28 u29 u30 u31 u32 u33 u34 u35 u36 u37 u38 u39 u40 u41 u42 u44 u45 u46 u47 u48 u49 u50 u51 u52 u53 u54 u55 u56 u57 u58 u59 u60 u61 u62 u63 u64 u65 u66 u67 u68 u69 u70 u71 u72 u73 u74 u75 u76 u77 u78 u79 u80 u81 u82 u83 u84 u85 u86 u87 u88 u89 u90 u91 u92 u93 u94 u95 u96 u97 u98 u99 u100 u101 u102 u103 u104 u105 u106 u107 u108 u109 u110 u111 u112 u113 u114 u115 u116 u117 u118 u119 u120 u121 u122 u123 u124 u125 u126 u127 u128 u129 u130 u131 u132 u133 u134 u135 u136 u137 u138 u139 u140 u141 u142 u143 u144 u145 u146 u147 u148 u149 u150 u151 u152 u153 u154 u155 u156 u157 u158 u159 u160 u161 u162 u163 u164 u165 u166 u167 u168 u169 u170 u171 u172 u173 u174 u175 u176 u177 u178 u179 u180 u181 u182 u183 u184 u185 u186 u187 u188 u189 u190 u191 u192 u193 u194 u195 u196 u197 u198 u199 u200 u201 u202 u203 u204 u205 u206 u207 u208 u209 u210 u211 u212 u213 u214 u215 u216 u217 u218 u219 u220 u221 u222 u223 u224 u225 u226 u227 u228 u229 u230 u231 u232 u233 u234 u235 u236 u237 u238 u239 u240 u241 u242 u243 u244 u245 u246 u247 u248 u249 u250 u251 u252 u253 u254 u255 u256 u257 u258 u259 u260 u261 u262 u263 u264 hK
 ·exact sw_3 s m t st pk oc rt ar an as_ al af nr nn ns nl nf cr cn cs cl_ cf reps nams srcs loss firs mn ex q gp n0 cb sb L0 hd bw l1 l2 l3 l4 l5 b2 b3 b4 b5 b6 b7 b12 b13 q1 q2 q3 q4 q5 hml hel hql hq hRB e1 e2 e3 e4 e5 hHd hBw hL0 hn0 hm0 hc0 hc1 w1 w3 r4 r5 P O B u0 u4 u5 u6 u10 u11 u12 u13 u14 u15 u16 u17 u18 u19 u20 u21 u22 u23 u24 u25 u26 u27 u28 u29 u30 u31 u32 u33 u34 u35 u36 u37 u38 u39 u40 u41 u42 u44 u45 u46 u47 u48 u49 u50 u51 u52 u53 u54 u55 u56 u57 u58 u59 u60 u61 u62 u63 u64 u65 u66 u67 u68 u69 u70 u71 u72 u73 u74 u75 u76 u77 u78 u79 u80 u81 u82 u83 u84 u85 u86 u87 u88 u89 u90 u91 u92 u93 u94 u95 u96 u97 u98 u99 u100 u101 u102 u103 u104 u105 u106 u107 u108 u109 u110 u111 u112 u113 u114 u115 u116 u117 u118 u119 u120 u121 u122 u123 u124 u125 u126 u127 u128 u129 u130 u131 u132 u133 u134 u135 u136 u137 u138 u139 u140 u141 u142 u143 u144 u145 u146 u147 u148 u149 u150 u151 u152 u153 u154 u155 u156 u157 u158 u159 u160 u161 u162 u163 u164 u165 u166 u167 u168 u169 u170 u171 u172 u173 u174 u175 u176 u177 u178 u179 u180 u181 u182 u183 u184 u185 u186 u187 u188 u189 u190 u191 u192 u193 u194 u195 u196 u197 u198 u199 u200 u201 u202 u203 u204 u205 u206 u207 u208 u209 u210 u211 u212 u213 u214 u215 u216 u217 u218 u219 u220 u221 u222 u223 u224 u225 u226 u227 u228 u229 u230 u231 u232 u233 u234 u235 u236 u237 u238 u239 u240 u241 u242 u243 u244 u245 u246 u247 u248 u249 u250 u251 u252 u253 u254 u255 u256 u257 u258 u259 u260 u261 u262 u263 u264 hK
 ·exact sw_4 s m t st pk oc rt ar an as_ al af nr nn ns nl nf cr cn cs cl_ cf reps nams srcs loss firs mn ex q gp n0 cb sb L0 hd bw l1 l2 l3 l4 l5 b2 b3 b4 b5 b6 b7 b12 b13 q1 q2 q3 q4 q5 hml hel hql hq hRB e1 e2 e3 e4 e5 hHd hBw hL0 hn0 hm0 hc0 hc1 w1 w3 r4 r5 P O B u0 u4 u5 u6 u10 u11 u12 u13 u14 u15 u16 u17 u18 u19 u20 u21 u22 u23 u24 u25 u26 u27 u28 u29 u30 u31 u32 u33 u34 u35 u36 u37 u38 u39 u40 u41 u42 u44 u45 u46 u47 u48 u49 u50 u51 u52 u53 u54 u55 u56 u57 u58 u59 u60 u61 u62 u63 u64 u65 u66 u67 u68 u69 u70 u71 u72 u73 u74 u75 u76 u77 u78 u79 u80 u81 u82 u83 u84 u85 u86 u87 u88 u89 u90 u91 u92 u93 u94 u95 u96 u97 u98 u99 u100 u101 u102 u103 u104 u105 u106 u107 u108 u109 u110 u111 u112 u113 u114 u115 u116 u117 u118 u119 u120 u121 u122 u123 u124 u125 u126 u127 u128 u129 u130 u131 u132 u133 u134 u135 u136 u137 u138 u139 u140 u141 u142 u143 u144 u145 u146 u147 u148 u149 u150 u151 u152 u153 u154 u155 u156 u157 u158 u159 u160 u161 u162 u163 u164 u165 u166 u167 u168 u169 u170 u171 u172 u173 u174 u175 u176 u177 u178 u179 u180 u181 u182 u183 u184 u185 u186 u187 u188 u189 u190 u191 u192 u193 u194 u195 u196 u197 u198 u199 u200 u201 u202 u203 u204 u205 u206 u207 u208 u209 u210 u211 u212 u213 u214 u215 u216 u217 u218 u219 u220 u221 u222 u223 u224 u225 u226 u227 u228 u229 u230 u231 u232 u233 u234 u235 u236 u237 u238 u239 u240 u241 u242 u243 u244 u245 u246 u247 u248 u249 u250 u251 u252 u253 u254 u255 u256 u257 u258 u259 u260 u261 u262 u263 u264 hK
end Go.Proofs.Ytcempndfbckcaaa
