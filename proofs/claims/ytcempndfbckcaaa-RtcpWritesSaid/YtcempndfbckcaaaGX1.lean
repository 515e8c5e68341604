/- append of a string; octets.Fill up to a multiple of four. No condition but the sizes'. rtcp's writer with bytes of its own: num, words, names. No condition but the sizes'. rtcp's writer: reports. No condition but the sizes'. rtcp's writer: names. No condition but the sizes'. -/
import Derived.Test.YtcempndfbckcaaaGX0
import Derived.Test.YtcempndfbckcaaaBst
import Derived.Test.YtcempndfbckcaaaGKi
namespace Go.Proofs.Ytcempndfbckcaaa
open Go.RowKit
theorem bstr_size (l : List Nat) : (bstr l).size = l.length := by simp [bstr, strOfNums_size]
theorem bstr_cells {l : List Nat} (h : ByL l) : byteCells (bstr l) = bvs l := by
 unfold byteCells bstr
 rw [strOfNums_data]
 unfold bvs
 rw [List.map_map, List.map_map]
 refine List.map_congr_left fun x hx => ?_
 have := h x hx
 simp [Function.comp, Nat.mod_eq_of_lt this]
theorem wp_apOS {o : Oper} {a : Act} {w : World} {K : Act → World → Prop} {Q : Exit → Act → World → Prop} (s x : Operand)
  (ho : o.op = .call { callee := .builtin .append, args := #[s, x], argTypes := #[36, 9] }) (base : Nat) (v : Value) (n : Nat) (l : List Nat) (hs : a.eval s = v) (hown : OB w base 5 v n l) (k : List Nat) (hk : ByL k) (hx : a.eval x = .string (bstr k)) (m : Nat) (hm : k.length = m)
  (hsz : n + m ≤ 1000000000000) (hbase : base ≤ w.heap.size)
  (h : ∀ sa cap w', n + m ≤ cap → cap ≤ maxLen → OB w' base 5 (.slice sa (n + m) cap) (n + m) (l ++ k) → Still v.ownBlock.toList w w' → Below base w w' → (∀ j, (Value.slice sa (n + m) cap).ownBlock = some j → v.ownBlock = some j ∨ w.heap.size ≤ j) → K (a.put o.dst (.slice sa (n + m) cap)) w') : o.wp Try.prog a w K Q := by
 have hA : App Try.prog w 36 1 9 (.string (bstr k)) m (bvs k) := by
  have h0 := App.str (P := Try.prog) (w := w) (T := 36) (size := 1) 9 (bstr k) Try.underlying9 rfl
  rw [bstr_cells hk, bstr_size, hm] at h0
  exact h0
 refine wp_aps slU8 9 s x ho base v n (bvs l) hs hown.2.2 _ hx m (bvs k) hA (by omega) hbase fun v' w' h1 h2 h3 => ?_
 have h4 := OB.of_app h1 hown.1 hm hown.2.1 hk
 obtain ⟨sa, cap, rfl, hc, hm⟩ := h4.len
 exact h sa cap w' hc hm h4 (Still.of_row h2) (Ows.grown hbase (Nat.le_refl _) hown.2.2 h2) h3
theorem wpList_apOS {ops : Array Oper} {rest : List Oper} {o : Oper} {a : Act} {w : World} {Q : Exit → Act → World → Prop} (hgd : o.guard = none) (s x : Operand)
  (ho : o.op = .call { callee := .builtin .append, args := #[s, x], argTypes := #[36, 9] }) (base : Nat) (v : Value) (n : Nat) (l : List Nat) (hs : a.eval s = v) (hown : OB w base 5 v n l) (k : List Nat) (hk : ByL k) (hx : a.eval x = .string (bstr k)) (m : Nat) (hm : k.length = m)
  (hsz : n + m ≤ 1000000000000) (hbase : base ≤ w.heap.size)
  (h : ∀ sa cap w', n + m ≤ cap → cap ≤ maxLen → OB w' base 5 (.slice sa (n + m) cap) (n + m) (l ++ k) → Still v.ownBlock.toList w w' → Below base w w' → (∀ j, (Value.slice sa (n + m) cap).ownBlock = some j → v.ownBlock = some j ∨ w.heap.size ≤ j) → wpList Try.prog ops Q rest (a.put o.dst (.slice sa (n + m) cap)) w') : wpList Try.prog ops Q (o :: rest) a w :=
 wpList_plain hgd fun _ hK => wp_apOS s x ho base v n l hs hown k hk hx m hm hsz hbase fun sa cap w' k1 k2 k3 k4 k5 k6 => hK _ _ (h sa cap w' k1 k2 k3 k4 k5 k6)
def pad4 (n : Nat) : Nat := (4 - n % 4) % 4
theorem zeros_snoc (k : Nat) : zeros (k + 1) = zeros k ++ [0] := by simp [zeros, List.replicate_succ']
set_option maxRecDepth 100000 in
set_option maxHeartbeats 8000000 in
theorem fill4_ok (bs : Nat) (sa : Option Addr) (n c : Nat) (l : List Nat) (hn : n ≤ 1000000) (w : World) (hbs : bs ≤ w.heap.size) (hO : OB w bs 5 (.slice sa n c) n l) :
  Calls Try.prog 131 #[.slice sa n c, .int .i64 4] w fun e w' => ∃ s' c', e = .returned (.slice s' (n + pad4 n) c') ∧ OB w' bs 5 (.slice s' (n + pad4 n) c') (n + pad4 n) (l ++ zeros (pad4 n)) ∧ BW w w' := by
 obtain ⟨_, _, he, hc, hm⟩ := hO.len
 cases he
 unfold maxLen at hm
 have O0 : Hid (OB w bs 5 (.slice sa n n) n l) := by
  have := hO.cut 0 n n (Nat.zero_le _) (Nat.le_refl _) (Nat.le_refl _) hc
  refine Lib.hid ?_
  simpa [cutA_zero, List.take_of_length_le (Nat.le_of_eq hO.1)] using this
 have hcut := fun w => run_cut_hm (P := Try.prog) Try.underlying36 info_u8 sa n c n n (n : Int) (n : Int) rfl rfl .i64 .i64 (Nat.le_refl _) hc w
 have hP : pad4 n < 4 := by unfold pad4; omega
 have hQ : ∀ j, j ≤ pad4 n → ((n + j) % 4 ≠ 0 ↔ j < pad4 n) := fun j hj => by unfold pad4 at *; omega
 generalize pad4 n = P at *
 clear hO
 replace hbs := Lib.hid hbs
 have hn2 : (n : Int) ≤ 1000000 := by omega
 go_enter Try.func131, Try.ntmps131
 go_upto_region 4 with (fail)
 clear hcut
 go_loopg [5] P (fun m' a wx => ∃ j, m' = P - j ∧ j ≤ P ∧ Hid (BW w wx) ∧ (j = 0 ∧ a = .slice sa n n ∨ 0 < j ∧ ∃ s1 c1, a = .slice s1 (n + j) c1 ∧ c1 ≤ 9223372036854775807 ∧ Hid (OB wx w.heap.size 5 (.slice s1 (n + j) c1) (n + j) (l ++ zeros j))))
 case atStart => exact ⟨0, rfl, by omega, BW.refl _, .inl ⟨rfl, rfl⟩⟩
 case round =>
  obtain ⟨j, rfl, hj, B, hs⟩ := hrel
  by_cases hjP : j < P
  ·have hq := (hQ j hj).2 hjP
   rcases hs with ⟨rfl, rfl⟩ | ⟨hj0, s1, c1, rfl, hc1, O⟩
   ·have d1 : ((n : Int) % 4 != 0) = true := by simp; omega
    go_wp2_with (at_builtin; go_must (refine wpList_apf slU8 rfl 36 _ _ rfl w.heap.size sa n (bvs l) rfl ((O0.out.bw B.out).sb.alloc _).2.2 _ rfl 1 (bvs [0]) (OB.sb_app Try.underlying36 (SB.new1 wr _ 0 (by decide))) (by omega) (by omega) (by have := B.out.size; simp; omega) ?_; intro v' w' h1 h2; have L2 := Lib.hid (BW.trans B.out (BW.of (((Below.refl _ wr).alloc (Nat.le_refl _) (.cells #[.int .u8 0] 5)).trans ((grown_none h2).mono (by simp))))); replace h1 := Lib.hid (OB.of_app h1 O0.out.1 rfl O0.out.2.1 (by intro z hz; simp at hz; omega)); clear h2))
    obtain ⟨s2, c2, rfl, _, hm2⟩ := h1.out.len
    unfold maxLen at hm2
    go_roundg (P - (0 + 1))
    case measure => omega
    case rel => exact ⟨0 + 1, rfl, by omega, L2, .inr ⟨by omega, s2, c2, rfl, by omega, h1⟩⟩
   ·have d1 : (((n + j : Nat) : Int) % 4 != 0) = true := by simp; omega
    have hz := Lib.hid (zeros_snoc j)
    generalize hnj : n + j = q at *
    have hq1 : q ≤ 1000004 := by omega
    have B9 := B
    replace hQ := Lib.hid hQ
    replace hnj := Lib.hid hnj
    have X1 := Lib.hid (SB.new1 wr 5 0 (by decide))
    go_wp2_with (at_builtin; go_must (refine wpList_apOB rfl _ _ rfl w.heap.size _ _ _ rfl ((O.out.bw ((BW.refl wr).alloc))) _ rfl _ _ (X1.out) (by omega) (BW.trans B.out (by repeat (first | exact BW.refl _ | apply BW.alloc | apply BW.drewN | apply BW.drew))).size ?_; intro s2 c2 w2 hcc2 hmc2 O2 hT hb hG; unfold maxLen at hmc2; replace hG := Lib.hid hG; replace hT := Lib.hid hT; skip))
    replace B := Lib.hid (BW.step (BW.trans B.out (by repeat (first | exact BW.refl _ | apply BW.alloc | apply BW.drewN | apply BW.drew))) hb (Nat.le_refl _))
    replace O2 := Lib.hid O2
    clear hb
    go_roundg (P - (j + 1))
    case measure => omega
    case rel => exact ⟨j + 1, rfl, by omega, B, .inr ⟨by omega, s2, c2, by rw [← Nat.add_assoc, hnj.out], by omega, by rw [← Nat.add_assoc, hnj.out, hz.out, ← List.append_assoc]; exact O2⟩⟩
  ·obtain rfl : j = P := by omega
   have hq := mt (hQ j hj).1 hjP
   rcases hs with ⟨rfl, rfl⟩ | ⟨hj0, s1, c1, rfl, hc1, O⟩
   ·have d1 : ((n : Int) % 4 != 0) = false := by simp; omega
    go_wp2_with fail
    go_ret
    exact ⟨sa, n, rfl, by simpa [zeros] using O0.out.bw B.out, B.out⟩
   ·have d1 : (((n + j : Nat) : Int) % 4 != 0) = false := by simp; omega
    have Oz := Lib.hid (O.out.up (base' := bs) hbs.out)
    clear hQ hq
    generalize hnj : n + j = q at *
    replace hnj := Lib.hid hnj
    go_wp2_with fail
    go_ret
    rw [hnj.out]
    exact ⟨s1, c1, rfl, Oz.out, B.out⟩
end Go.Proofs.Ytcempndfbckcaaa

namespace Go.Proofs.Ytcempndfbckcaaa
open Go.RowKit
def WrU (w : World) (bs g : Nat) (l : List Nat) : Prop := ∃ s c, HpB w g (.cells #[.slice s l.length c] 152) ∧ OB w bs 5 (.slice s l.length c) l.length l
theorem WrU.bw {w w' : World} {bs g : Nat} {l : List Nat} (h : WrU w bs g l) (b : BW w w') : WrU w' bs g l := by
 obtain ⟨s, c, h1, h2⟩ := h
 exact ⟨s, c, h1.bw b, h2.bw b⟩
theorem WrU.lt {w : World} {bs g : Nat} {l : List Nat} (h : WrU w bs g l) : g < w.heap.size := by
 obtain ⟨s, c, h1, _⟩ := h
 exact h1.lt
theorem WrU.up {w : World} {bs bs' g : Nat} {l : List Nat} (h : WrU w bs g l) (hb : bs' ≤ bs) : WrU w bs' g l := by
 obtain ⟨s, c, h1, h2⟩ := h
 exact ⟨s, c, h1, h2.up hb⟩
theorem WrU.v {w : World} {bs g : Nat} {l : List Nat} (h : WrU w bs g l) : WrV w g l := by
 obtain ⟨s, c, h1, h2⟩ := h
 exact ⟨s, c, h1, h2.up (Nat.zero_le _)⟩
set_option maxRecDepth 100000 in
set_option maxHeartbeats 8000000 in
theorem wnumU_ok (bs g : Nat) (l : List Nat) (n x : Nat) (b : Int) (hn1 : 1 ≤ n) (hn8 : n ≤ 8) (hb : b = n) (hx : x < 18446744073709551616) (hl : l.length ≤ 1000000) (w : World) (hbs : bs ≤ w.heap.size) (h : WrU w bs g l) :
  Calls Try.prog 114 #[.pointer (some ⟨g, 0, none⟩), .int .i64 b, .int .u64 (x : Nat)] w fun e w' => e = .returned (.tuple #[]) ∧ WrU w' bs g (l ++ putB n x) ∧ Still [g] w w' := by
 subst hb
 obtain ⟨s, c, h1, h2⟩ := h
 have z0 := (hp_cell h1 0).trans (show _ = some (.slice s l.length c) from rfl)
 have cP := Lib.hid (put_ok (.slice s l.length c) l.length l n x n hn1 hn8 rfl hx (by omega) w h2.sb)
 have hlen : (l ++ putB n x).length = l.length + n := by rw [List.length_append, putB_len]
 have H1 := Lib.hid h1
 have hbs := Lib.hid hbs
 clear h1 h2
 generalize l ++ putB n x = m at *
 clear hx
 replace hlen := Lib.hid hlen
 go_enter Try.func114, Try.ntmps114
 go_wp2_with fail
 refine Calls.mono cP.out ?_
 rintro e w1 ⟨v, rfl, O, hb⟩
 obtain ⟨s1, c1, rfl, h2, hm⟩ := O.len
 replace hb : BW w w1 := BW.of hb
 have H2 := H1.out.bw hb
 have H3 := hp_set H2 0 (.slice s1 (l.length + n) c1)
 have T3 := stillR w1 g 0 (.slice s1 (l.length + n) c1)
 have O3 := O.still T3 (fun k hk hm => O.2.2.ne H2 (by decide) k hk (by simpa using hm))
 have S3 := Lib.hid ((hb.still [g]).trans T3)
 have z1 := (hp_cell H2 0).trans (show _ = some (.slice s l.length c) from rfl)
 have f1 := hp_frz H2 0
 replace H3 := Lib.hid H3
 replace O3 := Lib.hid O3
 clear hb H2 T3 O cP z0 h2 hm hl hn1 hn8
 dsimp only
 go_wp2_with fail
 go_end0
 refine ⟨rfl, ⟨s1, c1, ?_, ?_⟩, S3.out⟩
 ·rw [hlen.out]; exact H3.out
 ·rw [hlen.out]; exact O3.out.up hbs.out
set_option maxRecDepth 100000 in
set_option maxHeartbeats 8000000 in
theorem wwordsU_ok (bs g : Nat) (l : List Nat) (v : Value) (n : Nat) (xs : List Nat) (base : Nat) (hxs : ∀ x ∈ xs, x < 4294967296) (hn : n ≤ 1000) (hl : l.length ≤ 100000) (w : World) (hbs : bs ≤ w.heap.size) (h : WrU w bs g l) (hv : SQ ES w base v n xs) (hvo : 0 < n → ∀ k, v.ownBlock = some k → k ≠ g) :
  Calls Try.prog 113 #[.pointer (some ⟨g, 0, none⟩), v] w fun e w' => e = .returned (.tuple #[]) ∧ WrU w' bs g (l ++ wordsB xs) ∧ Still [g] w w' := by
 obtain ⟨s, c, rfl, hc, hm⟩ := hv.len
 unfold maxLen at hm
 have hxl := hv.1
 have hfull : wordsB (xs.take n) = wordsB xs := by rw [← hxl, List.take_length]
 have hst := fun k (h : k < n) => wordsB_snoc xs k (by omega)
 have hln := fun k => wordsB_len (xs.take k)
 have hV := Lib.hid hv
 have hW := Lib.hid h
 clear h hv
 replace hfull := Lib.hid hfull
 replace hst := Lib.hid hst
 replace hln := Lib.hid hln
 replace hxl := Lib.hid hxl
 replace hxs := Lib.hid hxs
 replace hvo := Lib.hid hvo
 go_enter Try.func113, Try.ntmps113
 go_upto_region 1 with (fail)
 go_loopg [8] n (fun m' a wx => ∃ k : Nat, m' = n - k ∧ k ≤ n ∧ a = .int .i64 (k : Nat) ∧ Hid (WrU wx bs g (l ++ wordsB (xs.take k)) ∧ Still [g] w wx))
 case atStart => exact ⟨0, rfl, by omega, rfl, by show _ ∧ _; exact ⟨by simpa [wordsB] using hW.out, Still.refl _ _⟩⟩
 case round =>
  obtain ⟨k, rfl, hk, rfl, hp⟩ := hrel
  by_cases hkn : k < n
  ·have d : decide ((k : Int) < (n : Int)) = true := by simp; omega
   have hVr := hV.out.still hp.out.2 (fun _ _ => trivial) (fun j hj hm => hvo.out (by omega) j hj (by simpa using hm))
   obtain ⟨b, o, cap, he, hb, _, _, hcc⟩ := hVr.form (by omega)
   cases he
   obtain ⟨cs, hcs, hce⟩ := hcc k (by rw [hxl.out]; exact hkn)
   have hcs' : cs = [.int .u32 (xs[k]'(by rw [hxl.out]; exact hkn) : Nat)] := hcs
   have y0 := hce 0 (by decide)
   have hE : ES.size = 1 := rfl
   rw [hcs', hE, Nat.mul_one] at y0
   replace y0 : wr.cell? ⟨b, o + k, none⟩ = some (.int .u32 (xs[k]'(by rw [hxl.out]; exact hkn) : Nat)) := y0
   have hx4 := hxs.out (xs[k]'(by rw [hxl.out]; exact hkn)) (List.getElem_mem _)
   have hs1 := hst.out k hkn
   rw [List.getD_eq_getElem?_getD, List.getElem?_eq_getElem (by rw [hxl.out]; exact hkn), Option.getD_some] at hs1
   have cN := Lib.hid (wnumU_ok bs g (l ++ wordsB (xs.take k)) 4 (xs[k]'(by rw [hxl.out]; exact hkn)) 4 (by decide) (by decide) rfl (by omega) (by rw [List.length_append, hln.out, List.length_take]; have := hl; omega) wr (Nat.le_trans hbs hp.out.2.size) hp.out.1)
   rw [List.append_assoc, ← hs1] at cN
   have hx5 : ((xs[k]'(by rw [hxl.out]; exact hkn) : Nat) : Int) ≤ 4294967295 := by omega
   clear hcs hcs' hce hcc hs1 hVr
   generalize (xs[k]'(by rw [hxl.out]; exact hkn)) = x at *
   have hp2 := Lib.hid hp.out.2
   clear hp hx4
   replace hst := Lib.hid hst
   go_wp2_with fail
   refine Calls.mono cN.out ?_
   rintro e w2 ⟨rfl, W2, T2⟩
   have hp3 : Hid (WrU w2 bs g (l ++ wordsB (xs.take (k + 1))) ∧ Still [g] w w2) := ⟨W2, hp2.out.trans T2⟩
   clear W2 T2 hp2 cN y0 hx5
   dsimp only
   go_wp2_with fail
   go_roundg (n - (k + 1))
   case measure => omega
   case rel => exact ⟨k + 1, rfl, by omega, by push_cast; rfl, hp3⟩
  ·obtain rfl : k = n := by omega
   have d : decide ((k : Int) < (k : Int)) = false := by simp
   have hp3 := hp.out
   rw [hfull.out] at hp3
   replace hp3 := Lib.hid hp3
   clear hp
   go_wp2_with fail
   go_end0
   exact ⟨rfl, hp3.out.1, hp3.out.2⟩
end Go.Proofs.Ytcempndfbckcaaa

namespace Go.Proofs.Ytcempndfbckcaaa
open Go.RowKit
theorem sq_cells {α : Type} {E : Elt α} {w : World} {b0 : Nat} {sv : Option Addr} {n cap : Nat} {L : List α} (h : SQ E w b0 (.slice sv n cap) n L) (h0 : 0 < n) :
  ∃ g o, sv = some ⟨g, o, none⟩ ∧ g < w.heap.size ∧ ∀ i (_ : i < L.length), ∃ c, E.R w b0 L[i] c ∧ ∀ j, j < E.size → w.cell? ⟨g, o + i * E.size + j, none⟩ = c[j]? := by
 obtain ⟨g, o, cap', he, hlt, _, _, hc⟩ := h.form h0
 simp only [Value.slice.injEq] at he
 refine ⟨g, o, he.1, hlt, fun i hi => ?_⟩
 obtain ⟨c, hR, hcc⟩ := hc i hi
 exact ⟨c, hR, fun j hj => by rw [← hcc j hj, ← Nat.add_assoc]⟩
theorem SQ.st0 {α : Type} {E : Elt α} {w w' : World} {base : Nat} {v : Value} {n : Nat} {l : List α} (h : SQ E w base v n l) {S : List Nat} (hs : Still S w w') (hS : ∀ k ∈ S, E.Ok w k) (hv : 0 < n → ∀ g, v.ownBlock = some g → g ∉ S) : SQ E w' base v n l := by
 rcases Nat.eq_zero_or_pos n with rfl | h0
 ·obtain ⟨h1, xs, h2, h3⟩ := h
  refine ⟨h1, xs, ?_, h3.mono fun _ _ h => E.still h hs hS⟩
  obtain ⟨k1, k2, k3 | ⟨b, o, cap, e, k4, k5, k6, k7⟩⟩ := h2
  ·exact ⟨k1, k2, .inl k3⟩
  ·exact ⟨k1, k2, .inl ⟨rfl, _, cap, e, (fun h => by cases h), k5⟩⟩
 ·exact h.still hs hS (hv h0)
structure RepWf (r : Rep) : Prop where
 s : r.s < 4294967296
 f : r.f < 256
 lo : -2147483648 ≤ r.lost
 hi : r.lost ≤ 2147483647
 h : r.h < 4294967296
 j : r.j < 4294967296
 l : r.l < 4294967296
 d : r.d < 4294967296
def lostU (x : Int) : Nat := (x % 18446744073709551616).toNat
def repW (r : Rep) : List Nat := ((wordsB [r.s] ++ putB 1 r.f) ++ putB 3 (lostU r.lost)) ++ wordsB [r.h, r.j, r.l, r.d]
def repsB (l : List Rep) : List Nat := (l.map repW).flatten
theorem repW_len (r : Rep) : (repW r).length = 24 := by simp [repW, wordsB_len, putB_len]
theorem repsB_len (l : List Rep) : (repsB l).length = 24 * l.length := by
 induction l with
 | nil => rfl
 | cons r l ih => simp only [repsB, List.map_cons, List.flatten_cons, List.length_append, repW_len, List.length_cons] at ih ⊢; omega
theorem repsB_snoc (l : List Rep) (k : Nat) (h : k < l.length) : repsB (l.take (k + 1)) = repsB (l.take k) ++ repW (l[k]) := by
 unfold repsB
 rw [List.take_succ_eq_append_getElem h, List.map_append, List.flatten_append]
 simp
theorem WrV.still {w w' : World} {g : Nat} {l : List Nat} (h : WrV w g l) {S : List Nat} (hs : Still S w w') (h1 : g ∉ S) (h2 : ∀ k ∈ S, ∃ cs T fr, w.heap[k]? = some (.cells cs T fr) ∧ T ≠ 5) : WrV w' g l := by
 obtain ⟨s, c, h3, h4⟩ := h
 refine ⟨s, c, h3.st hs h1, h4.still hs (fun k hk hm => ?_)⟩
 obtain ⟨cs, T, fr, e, hT⟩ := h2 k hm
 exact h4.2.2.ne e hT k hk rfl
set_option maxRecDepth 100000 in
set_option maxHeartbeats 8000000 in
theorem wreports_ok (bs g : Nat) (l : List Nat) (v : Value) (n : Nat) (L : List Rep) (hL : ∀ r ∈ L, RepWf r) (hn : n ≤ 1000) (hl : l.length ≤ 1000) (w : World) (hbs : bs ≤ w.heap.size) (h : WrU w bs g l) (hv : SQ ER w 0 v n L) (hvo : 0 < n → ∀ k, v.ownBlock = some k → k ≠ g) :
  Calls Try.prog 115 #[.pointer (some ⟨g, 0, none⟩), v] w fun e w' => e = .returned (.tuple #[]) ∧ WrU w' bs g (l ++ repsB L) ∧ Still [g] w w' := by
 obtain ⟨s, c, rfl, hc, hm⟩ := hv.len
 unfold maxLen at hm
 have hxl := hv.1
 have hfull : repsB (L.take n) = repsB L := by rw [← hxl, List.take_length]
 have hst := fun k (h : k < L.length) => repsB_snoc L k h
 have hln := fun k => repsB_len (L.take k)
 have hV := Lib.hid hv
 have hW := Lib.hid h
 have hgl := Lib.hid h.lt
 clear h hv
 replace hbs := Lib.hid hbs
 replace hfull := Lib.hid hfull
 replace hst := Lib.hid hst
 replace hln := Lib.hid hln
 replace hxl := Lib.hid hxl
 replace hvo := Lib.hid hvo
 replace hL := Lib.hid hL
 go_enter Try.func115, Try.ntmps115
 go_upto_region 1 with (fail)
 go_loopg [8] n (fun m' a wx => ∃ k : Nat, m' = n - k ∧ k ≤ n ∧ a = .int .i64 (k : Nat) ∧ Hid (WrU wx bs g (l ++ repsB (L.take k)) ∧ Still [g] w wx))
 case atStart => exact ⟨0, rfl, by omega, rfl, by show _ ∧ _; exact ⟨by simpa [repsB] using hW.out, Still.refl _ _⟩⟩
 case round =>
  obtain ⟨k, rfl, hk, rfl, hp⟩ := hrel
  by_cases hkn : k < n
  ·have d : decide ((k : Int) < (n : Int)) = true := by simp; omega
   have hkl : k < L.length := by rw [hxl.out]; exact hkn
   have hVr := hV.out.still hp.out.2 (fun _ _ => trivial) (fun j hj hm => hvo.out (by omega) j hj (by simpa using hm))
   obtain ⟨b, o, rfl, hb, hcc⟩ := sq_cells hVr (by omega)
   obtain ⟨cs, hcs, hce⟩ := hcc k hkl
   replace hcs : cs = repV (L[k]) := hcs
   replace hce : ∀ j, j < 7 → wr.cell? ⟨b, o + k * 7 + j, none⟩ = (repV (L[k]))[j]? := fun j hj => by rw [← hcs]; exact hce j hj
   have hs1 := hst.out k hkl
   have hwf := hL.out _ (List.getElem_mem hkl)
   have hln1 : (l ++ repsB (L.take k)).length ≤ 25000 := by rw [List.length_append, hln.out, List.length_take]; have := hl; omega
   clear hcs hcc hVr
   generalize L[k] = r at *
   obtain ⟨rs, rf, lost, rh, rj, rl, rd⟩ := r
   obtain ⟨b1, b2, b3, b4, b5, b6, b7, b8⟩ := hwf
   have y0 : wr.cell? ⟨b, o + k * 7, none⟩ = some (.int .u32 (rs : Nat)) := hce 0 (by decide)
   have y1 : wr.cell? ⟨b, o + k * 7 + 1, none⟩ = some (.int .u8 (rf : Nat)) := hce 1 (by decide)
   have y2 : wr.cell? ⟨b, o + k * 7 + 2, none⟩ = some (.int .i32 lost) := hce 2 (by decide)
   have y3 : wr.cell? ⟨b, o + k * 7 + 3, none⟩ = some (.int .u32 (rh : Nat)) := hce 3 (by decide)
   have y4 : wr.cell? ⟨b, o + k * 7 + 4, none⟩ = some (.int .u32 (rj : Nat)) := hce 4 (by decide)
   have y5 : wr.cell? ⟨b, o + k * 7 + 5, none⟩ = some (.int .u32 (rl : Nat)) := hce 5 (by decide)
   have y6 : wr.cell? ⟨b, o + k * 7 + 6, none⟩ = some (.int .u32 (rd : Nat)) := hce 6 (by decide)
   dsimp only at b1 b2 b3 b4 b5 b6 b7 b8
   clear hce
   generalize hA : l ++ repsB (L.take k) = A at *
   have hfin : l ++ repsB (L.take (k + 1)) = A ++ (((wordsB [rs] ++ putB 1 rf) ++ putB 3 (lostU lost)) ++ wordsB [rh, rj, rl, rd]) := by
    rw [hs1, ← List.append_assoc, hA]; rfl
   have hX : IntKind.u64.wrap lost = ((lostU lost : Nat) : Int) := by
    rw [IntKind.wrap_u64]
    unfold lostU
    omega
   have hXl : lostU lost < 18446744073709551616 := by unfold lostU; omega
   have c1 := fun wz cp gz (hz : bs ≤ wz.heap.size) (h : WrU wz bs g A) hq ho => Lib.hid (wwordsU_ok bs g A (.slice (some ⟨gz, 0, none⟩) 1 cp) 1 [rs] 0 (by simp; omega) (by omega) (by omega) wz hz h hq ho)
   have c2 := fun wz (hz : bs ≤ wz.heap.size) (h : WrU wz bs g (A ++ wordsB [rs])) => Lib.hid (wnumU_ok bs g (A ++ wordsB [rs]) 1 rf 1 (by decide) (by decide) rfl (by omega) (by rw [List.length_append, wordsB_len]; simp; omega) wz hz h)
   have c3 := fun wz (hz : bs ≤ wz.heap.size) (h : WrU wz bs g ((A ++ wordsB [rs]) ++ putB 1 rf)) => Lib.hid (wnumU_ok bs g ((A ++ wordsB [rs]) ++ putB 1 rf) 3 (lostU lost) 3 (by decide) (by decide) rfl hXl (by rw [List.length_append, List.length_append, wordsB_len, putB_len]; simp; omega) wz hz h)
   have c4 := fun wz cp gz (hz : bs ≤ wz.heap.size) (h : WrU wz bs g (((A ++ wordsB [rs]) ++ putB 1 rf) ++ putB 3 (lostU lost))) hq ho => Lib.hid (wwordsU_ok bs g (((A ++ wordsB [rs]) ++ putB 1 rf) ++ putB 3 (lostU lost)) (.slice (some ⟨gz, 0, none⟩) 4 cp) 4 [rh, rj, rl, rd] 0 (by simp; omega) (by omega) (by rw [List.length_append, List.length_append, List.length_append, wordsB_len, putB_len, putB_len]; simp; omega) wz hz h hq ho)
   generalize lostU lost = X at *
   have hrf : (rf : Int) ≤ 255 := by omega
   have BA : BW wr (wr.alloc (.cells #[.int .u32 (rs : Nat), .int .u8 (rf : Nat), .int .i32 lost, .int .u32 (rh : Nat), .int .u32 (rj : Nat), .int .u32 (rl : Nat), .int .u32 (rd : Nat)] 187)) := (BW.refl _).alloc
   have P := Lib.hid (HpB.new wr (.cells #[.int .u32 (rs : Nat), .int .u8 (rf : Nat), .int .i32 lost, .int .u32 (rh : Nat), .int .u32 (rj : Nat), .int .u32 (rl : Nat), .int .u32 (rd : Nat)] 187))
   have W1 := Lib.hid (hp.out.1.bw BA)
   have S1 := Lib.hid (hp.out.2.trans (BA.still [g]))
   have hgp : Hid (g < wr.heap.size) := by have := hp.out.2.size; have := hgl.out; show _ < _; omega
   clear hp b1 b2 b3 b4 b5 b6 b7 b8 hXl hs1 hA hln1
   replace BA := Lib.hid BA
   replace hfin := Lib.hid hfin
   go_upto_region 3 with (fail)
   generalize (wr.alloc _) = w1 at *
   generalize wr.heap.size = gp at *
   clear y0 y1 y2 y3 y4 y5 y6 BA
   have z0 := (hp_cell P.out 0).trans (show _ = some (.int .u32 (rs : Nat)) from rfl)
   have BS : BW w1 (w1.alloc (.cells #[.int .u32 (rs : Nat)] 73)) := (BW.refl w1).alloc
   have Q := Lib.hid (SQ_srcs w1 0 [rs] #[.int .u32 (rs : Nat)] rfl 1 rfl (by omega) (by omega))
   have hlt1 := Lib.hid P.out.lt
   have c1a := c1 _ 1 w1.heap.size (Nat.le_trans hbs.out (S1.out.trans (BS.still [g])).size) (W1.out.bw BS) Q.out (fun _ j hj => by simp [Value.ownBlock] at hj; have := hlt1.out; have := hgp.out; omega)
   have P2 := Lib.hid (P.out.bw BS)
   have S2 := Lib.hid (S1.out.trans (BS.still [g]))
   clear W1 S1 P Q c1
   replace BS := Lib.hid BS
   go_wp2_with fail
   refine Calls.mono c1a.out ?_
   rintro e w2 ⟨rfl, W2, T2⟩
   have P3 := Lib.hid (P2.out.st T2 (by have := hgp.out; simp; omega))
   have S3 := Lib.hid (S2.out.trans T2)
   have c2a := c2 w2 (Nat.le_trans hbs.out S3.out.size) W2
   clear z0 T2 W2 P2 S2 c1a BS c2
   dsimp only
   have z1 := (hp_cell P3.out 1).trans (show _ = some (.int .u8 (rf : Nat)) from rfl)
   go_wp2_with fail
   refine Calls.mono c2a.out ?_
   rintro e w3 ⟨rfl, W3, T3⟩
   have P4 := Lib.hid (P3.out.st T3 (by have := hgp.out; simp; omega))
   have S4 := Lib.hid (S3.out.trans T3)
   have c3a := c3 w3 (Nat.le_trans hbs.out S4.out.size) W3
   clear z1 T3 W3 P3 S3 c2a c3
   dsimp only
   have z2 := (hp_cell P4.out 2).trans (show _ = some (.int .i32 lost) from rfl)
   go_wp2_with fail
   refine Calls.mono c3a.out ?_
   rintro e w4 ⟨rfl, W4, T4⟩
   have P5 := Lib.hid (P4.out.st T4 (by have := hgp.out; simp; omega))
   have S5 := Lib.hid (S4.out.trans T4)
   clear z2 T4 P4 S4 c3a
   dsimp only
   have BS : BW w4 (w4.alloc (.cells #[.int .u32 (rh : Nat), .int .u32 (rj : Nat), .int .u32 (rl : Nat), .int .u32 (rd : Nat)] 73)) := (BW.refl w4).alloc
   have Q := Lib.hid (SQ_srcs w4 0 [rh, rj, rl, rd] #[.int .u32 (rh : Nat), .int .u32 (rj : Nat), .int .u32 (rl : Nat), .int .u32 (rd : Nat)] rfl 4 rfl (by omega) (by omega))
   have c4a := c4 _ 4 w4.heap.size (Nat.le_trans hbs.out (S5.out.trans (BS.still [g])).size) (W4.bw BS) Q.out (fun _ j hj => by simp [Value.ownBlock] at hj; have := P5.out.lt; have := hgp.out; omega)
   have S6 := Lib.hid (S5.out.trans (BS.still [g]))
   have z3 := (hp_cell P5.out 3).trans (show _ = some (.int .u32 (rh : Nat)) from rfl)
   have z4 := (hp_cell P5.out 4).trans (show _ = some (.int .u32 (rj : Nat)) from rfl)
   have z5 := (hp_cell P5.out 5).trans (show _ = some (.int .u32 (rl : Nat)) from rfl)
   have z6 := (hp_cell P5.out 6).trans (show _ = some (.int .u32 (rd : Nat)) from rfl)
   clear W4 S5 Q c4 hX hrf
   replace BS := Lib.hid BS
   go_wp2_with fail
   refine Calls.mono c4a.out ?_
   rintro e w5 ⟨rfl, W5, T5⟩
   have hp3 : Hid (WrU w5 bs g (l ++ repsB (L.take (k + 1))) ∧ Still [g] w w5) := ⟨by rw [hfin.out, ← List.append_assoc, ← List.append_assoc, ← List.append_assoc]; exact W5, S6.out.trans T5⟩
   clear W5 T5 S6 c4a z3 z4 z5 z6 BS P5
   dsimp only
   go_wp2_with fail
   go_roundg (n - (k + 1))
   case measure => omega
   case rel => exact ⟨k + 1, rfl, by omega, by push_cast; rfl, hp3⟩
  ·obtain rfl : k = n := by omega
   have d : decide ((k : Int) < (k : Int)) = false := by simp
   have hp3 := hp.out
   rw [hfull.out] at hp3
   replace hp3 := Lib.hid hp3
   clear hp
   go_wp2_with fail
   go_end0
   exact ⟨rfl, hp3.out.1, hp3.out.2⟩
end Go.Proofs.Ytcempndfbckcaaa

namespace Go.Proofs.Ytcempndfbckcaaa
open Go.RowKit
def namW (p : Nat × List Nat) : List Nat := ((((wordsB [p.1] ++ putB 1 1) ++ putB 1 p.2.length) ++ p.2) ++ [0]) ++ zeros (pad4 (7 + p.2.length))
def namsB (l : List (Nat × List Nat)) : List Nat := (l.map namW).flatten
theorem namW_len (p : Nat × List Nat) : (namW p).length = 7 + p.2.length + pad4 (7 + p.2.length) := by
 simp only [namW, List.length_append, wordsB_len, putB_len, List.length_singleton, zeros_len]
 omega
theorem pad4_four (n : Nat) : (n + pad4 n) % 4 = 0 := by unfold pad4; omega
theorem pad4_lt (n : Nat) : pad4 n < 4 := by unfold pad4; omega
theorem pad4_add (a n : Nat) (h : a % 4 = 0) : pad4 (a + n) = pad4 n := by unfold pad4; omega
theorem namsB_len (l : List (Nat × List Nat)) (h : ∀ p ∈ l, p.2.length ≤ 100) : (namsB l).length % 4 = 0 ∧ (namsB l).length ≤ 112 * l.length := by
 induction l with
 | nil => exact ⟨rfl, Nat.le_refl _⟩
 | cons p l ih =>
  obtain ⟨h1, h2⟩ := ih (fun q hq => h q (List.mem_cons_of_mem _ hq))
  have h3 := h p (List.mem_cons_self)
  have h4 := namW_len p
  have h5 := pad4_four (7 + p.2.length)
  have h6 := pad4_lt (7 + p.2.length)
  have e : (namsB (p :: l)).length = (namW p).length + (namsB l).length := by simp [namsB]
  rw [e, h4, List.length_cons]
  omega
theorem namsB_snoc (l : List (Nat × List Nat)) (k : Nat) (h : k < l.length) : namsB (l.take (k + 1)) = namsB (l.take k) ++ namW (l[k]) := by
 unfold namsB
 rw [List.take_succ_eq_append_getElem h, List.map_append, List.flatten_append]
 simp
set_option maxRecDepth 100000 in
set_option maxHeartbeats 8000000 in
theorem wnames_ok (g : Nat) (v : Value) (n : Nat) (L : List (Nat × List Nat)) (hL : ∀ p ∈ L, p.1 < 4294967296 ∧ ByL p.2 ∧ p.2.length ≤ 100) (hn : n ≤ 100) (w : World) (h : HpB w g (.cells #[.slice none 0 0] 152)) (hv : SQ EM w 0 v n L) (hvo : 0 < n → ∀ k, v.ownBlock = some k → k ≠ g) :
  Calls Try.prog 116 #[.pointer (some ⟨g, 0, none⟩), v] w fun e w' => e = .returned (.tuple #[]) ∧ WrU w' w.heap.size g (namsB L) ∧ Still [g] w w' := by
 obtain ⟨s, c, rfl, hc, hm⟩ := hv.len
 unfold maxLen at hm
 have hxl := hv.1
 have hfull : namsB (L.take n) = namsB L := by rw [← hxl, List.take_length]
 have hst := fun k (h : k < L.length) => namsB_snoc L k h
 have hln := fun k => namsB_len (L.take k) (fun p hp => (hL p (List.mem_of_mem_take hp)).2.2)
 have hV := Lib.hid hv
 have hW : Hid (WrU w w.heap.size g []) := ⟨none, 0, h, OB.nil _ _ _⟩
 have hgl := Lib.hid h.lt
 clear h hv
 replace hfull := Lib.hid hfull
 replace hst := Lib.hid hst
 replace hln := Lib.hid hln
 replace hxl := Lib.hid hxl
 replace hvo := Lib.hid hvo
 replace hL := Lib.hid hL
 go_enter Try.func116, Try.ntmps116
 go_upto_region 1 with (fail)
 go_loopg [8] n (fun m' a wx => ∃ k : Nat, m' = n - k ∧ k ≤ n ∧ a = .int .i64 (k : Nat) ∧ Hid (WrU wx w.heap.size g (namsB (L.take k)) ∧ Still [g] w wx))
 case atStart => exact ⟨0, rfl, by omega, rfl, by show _ ∧ _; exact ⟨by simpa [namsB] using hW.out, Still.refl _ _⟩⟩
 case round =>
  obtain ⟨k, rfl, hk, rfl, hp⟩ := hrel
  by_cases hkn : k < n
  ·have d : decide ((k : Int) < (n : Int)) = true := by simp; omega
   have hkl : k < L.length := by rw [hxl.out]; exact hkn
   have hVr := hV.out.still hp.out.2 (fun _ _ => trivial) (fun j hj hm => hvo.out (by omega) j hj (by simpa using hm))
   obtain ⟨b, o, rfl, hb, hcc⟩ := sq_cells hVr (by omega)
   obtain ⟨cs, hcs, hce⟩ := hcc k hkl
   replace hcs : cs = namV (L[k]) := hcs
   replace hce : ∀ j, j < 2 → wr.cell? ⟨b, o + k * 2 + j, none⟩ = (namV (L[k]))[j]? := fun j hj => by rw [← hcs]; exact hce j hj
   have hs1 := hst.out k hkl
   obtain ⟨v1, hby, v3⟩ := hL.out _ (List.getElem_mem hkl)
   obtain ⟨q4, qm⟩ := hln.out k
   have hkm : (L.take k).length ≤ 100 := by rw [List.length_take]; omega
   clear hcs hcc hVr
   generalize L[k] = r at *
   obtain ⟨rs, nm⟩ := r
   have y0 : wr.cell? ⟨b, o + k * 2, none⟩ = some (.int .u32 (rs : Nat)) := hce 0 (by decide)
   have y1 : wr.cell? ⟨b, o + k * 2 + 1, none⟩ = some (.string (bstr nm)) := hce 1 (by decide)
   dsimp only at v1 hby v3
   clear hce
   have hAl : (namsB (L.take k)).length ≤ 11200 := by omega
   clear qm hkm
   generalize namsB (L.take k) = A at *
   have hfin : namsB (L.take (k + 1)) = A ++ (((((wordsB [rs] ++ putB 1 1) ++ putB 1 nm.length) ++ nm) ++ [0]) ++ zeros (pad4 (7 + nm.length))) := by
    rw [hs1]; rfl
   have hpd : pad4 (A.length + 6 + nm.length + 1) = pad4 (7 + nm.length) := by
    rw [show A.length + 6 + nm.length + 1 = A.length + (7 + nm.length) by omega]
    exact pad4_add _ _ q4
   have c1 := fun wz cp gz (hz : w.heap.size ≤ wz.heap.size) (h : WrU wz w.heap.size g A) hq ho => Lib.hid (wwordsU_ok w.heap.size g A (.slice (some ⟨gz, 0, none⟩) 1 cp) 1 [rs] 0 (by simp; omega) (by omega) (by omega) wz hz h hq ho)
   have c2 := fun wz (hz : w.heap.size ≤ wz.heap.size) (h : WrU wz w.heap.size g (A ++ wordsB [rs])) => Lib.hid (wnumU_ok w.heap.size g (A ++ wordsB [rs]) 1 1 1 (by decide) (by decide) rfl (by omega) (by rw [List.length_append, wordsB_len]; simp; omega) wz hz h)
   have c3 := fun wz (hz : w.heap.size ≤ wz.heap.size) (h : WrU wz w.heap.size g ((A ++ wordsB [rs]) ++ putB 1 1)) => Lib.hid (wnumU_ok w.heap.size g ((A ++ wordsB [rs]) ++ putB 1 1) 1 nm.length 1 (by decide) (by decide) rfl (by omega) (by rw [List.length_append, List.length_append, wordsB_len, putB_len]; simp; omega) wz hz h)
   have hBl : Hid ((((A ++ wordsB [rs]) ++ putB 1 1) ++ putB 1 nm.length).length = A.length + 6) := by
    show _ = _
    simp only [List.length_append, wordsB_len, putB_len, List.length_singleton]
   have hfin2 : Hid (namsB (L.take (k + 1)) = (((((A ++ wordsB [rs]) ++ putB 1 1) ++ putB 1 nm.length) ++ nm) ++ [0]) ++ zeros (pad4 (A.length + 6 + nm.length + 1))) := by
    show _ = _
    rw [hfin, hpd]
    simp only [List.append_assoc]
   have hsz : (bstr nm).size = nm.length := bstr_size nm
   generalize hnl : nm.length = nl at *
   have hnl2 : (nl : Int) ≤ 100 := by omega
   have hAl2 : A.length ≤ 11200 := hAl
   have BA : BW wr (wr.alloc (.cells #[.int .u32 (rs : Nat), .string (bstr nm)] 148)) := (BW.refl _).alloc
   have P := Lib.hid (HpB.new wr (.cells #[.int .u32 (rs : Nat), .string (bstr nm)] 148))
   have W1 := Lib.hid (hp.out.1.bw BA)
   have S1 := Lib.hid (hp.out.2.trans (BA.still [g]))
   have hgp : Hid (g < wr.heap.size ∧ w.heap.size ≤ wr.heap.size) := by have := hp.out.2.size; have := hgl.out; show _ ∧ _; omega
   clear hp v1 v3 hs1 hfin hpd q4
   replace BA := Lib.hid BA
   replace hby := Lib.hid hby
   replace hnl := Lib.hid hnl
   go_upto_region 3 with (fail)
   generalize (wr.alloc _) = w1 at *
   generalize wr.heap.size = gp at *
   clear y0 y1 BA
   have z0 := (hp_cell P.out 0).trans (show _ = some (.int .u32 (rs : Nat)) from rfl)
   have BS : BW w1 (w1.alloc (.cells #[.int .u32 (rs : Nat)] 73)) := (BW.refl w1).alloc
   have Q := Lib.hid (SQ_srcs w1 0 [rs] #[.int .u32 (rs : Nat)] rfl 1 rfl (by omega) (by omega))
   have hlt1 := Lib.hid P.out.lt
   have c1a := c1 _ 1 w1.heap.size (by have := BS.size; have := hlt1.out; have := hgp.out; omega) (W1.out.bw BS) Q.out (fun _ j hj => by simp [Value.ownBlock] at hj; have := hlt1.out; have := hgp.out; omega)
   have P2 := Lib.hid (P.out.bw BS)
   have S2 := Lib.hid (S1.out.trans (BS.still [g]))
   clear W1 S1 P Q c1
   replace BS := Lib.hid BS
   go_wp2_with fail
   refine Calls.mono c1a.out ?_
   rintro e w2 ⟨rfl, W2, T2⟩
   have P3 := Lib.hid (P2.out.st T2 (by have := hgp.out; simp; omega))
   have S3 := Lib.hid (S2.out.trans T2)
   have c2a := c2 w2 S3.out.size W2
   clear z0 T2 W2 P2 S2 c1a BS c2
   dsimp only
   go_wp2_with fail
   refine Calls.mono c2a.out ?_
   rintro e w3 ⟨rfl, W3, T3⟩
   have P4 := Lib.hid (P3.out.st T3 (by have := hgp.out; simp; omega))
   have S4 := Lib.hid (S3.out.trans T3)
   have c3a := c3 w3 S4.out.size W3
   clear T3 W3 P3 S3 c2a c3
   dsimp only
   have z1 := (hp_cell P4.out 1).trans (show _ = some (.string (bstr nm)) from rfl)
   go_wp2_with fail
   refine Calls.mono c3a.out ?_
   rintro e w4 ⟨rfl, W4, T4⟩
   have P5 := Lib.hid (P4.out.st T4 (by have := hgp.out; simp; omega))
   have S5 := Lib.hid (S4.out.trans T4)
   clear z1 T4 P4 S4 c3a
   dsimp only
   go_upto_region 6 with (fail)
   obtain ⟨s5, c5, H5, O5⟩ := W4
   rw [hBl.out] at H5 O5
   generalize (((A ++ wordsB [rs]) ++ putB 1 1) ++ putB 1 nl) = B5 at *
   generalize hm6 : A.length + 6 = m6 at *
   have hm7 : m6 ≤ 11206 := by omega
   have l0 : ∀ y : LaterS [] w4, y.now.cell? ⟨g, 0, none⟩ = some (.slice s5 m6 c5) := fun y => (hp_cell (H5.bw y.bw) 0).trans rfl
   have l1 : ∀ y : LaterS [] w4, y.now.cell? ⟨gp, 1, none⟩ = some (.string (bstr nm)) := fun y => (hp_cell (P5.out.bw y.bw) 1).trans rfl
   have hng : Hid (∀ k ∈ (Value.slice s5 m6 c5).ownBlock.toList, w.heap.size ≤ k ∧ k ≠ g) := fun k hk => ⟨O5.ge' k (by simpa using hk), fun e => O5.2.2.ne H5 (by decide) k (by simpa using hk) e⟩
   have hS5 : ∀ k ∈ (Value.slice s5 m6 c5).ownBlock.toList, k < w4.heap.size := fun k hk => O5.lt' k (by simpa using hk)
   have hcl := O5.len
   obtain ⟨_, _, he5, hc5, hmx5⟩ := hcl
   cases he5
   unfold maxLen at hmx5
   clear hBl hAl hAl2
   replace O5 := Lib.hid O5
   replace H5 := Lib.hid H5
   replace hm6 := Lib.hid hm6
   have hz : Hid (w4.heap.size ≤ w4.heap.size) := Lib.hid (Nat.le_refl _)
   refine wp_region_gl ((Value.slice s5 m6 c5).ownBlock.toList) [7] [11] [9] (by kernel_rfl) ?_
   refine hoistP (a1 := ?_) 0 rfl (by kernel_rfl) rfl (fun x => rfl) ?_ ?_
   rotate_left
   ·simp only [Act.put, List.setIfInBounds_toArray, List.set_cons_succ, List.set_cons_zero]; rfl
   refine hoist [] [7] (a1 := ?_) 1 rfl (by kernel_rfl) (.inl ⟨rfl, rfl⟩) rfl rfl rfl (fun x K hK => ?_) ?_
   rotate_left
   ·go_big_quiet_op
    exact hK
   refine hoist [] [7] (a1 := ?_) 2 rfl (by kernel_rfl) (.inl ⟨rfl, rfl⟩) rfl rfl rfl (fun x K hK => ?_) ?_
   rotate_left
   ·go_big_quiet_op
    exact hK
   refine hoist [] [7] (a1 := ?_) 3 rfl (by kernel_rfl) (.inl ⟨rfl, rfl⟩) rfl rfl rfl (fun x K hK => ?_) ?_
   rotate_left
   ·go_big_quiet_op
    exact hK
   refine hoist [] [7] (a1 := ?_) 4 rfl (by kernel_rfl) (.inl ⟨rfl, rfl⟩) rfl rfl rfl (fun x K hK => ?_) ?_
   rotate_left
   ·go_big_quiet_op
    exact hK
   refine hoist [] [7] (a1 := ?_) 5 rfl (by kernel_rfl) (.inl ⟨rfl, rfl⟩) rfl rfl rfl (fun x K hK => ?_) ?_
   rotate_left
   ·go_big_quiet_op
    exact hK
   refine hoist [] [7] (a1 := ?_) 6 rfl (by kernel_rfl) (.inl ⟨rfl, rfl⟩) rfl rfl rfl (fun x K hK => ?_) ?_
   rotate_left
   ·go_big_quiet_op
    exact hK
   refine effect2 7 8 rfl rfl (by kernel_rfl) (by kernel_rfl) (by kernel_rfl) rfl rfl (fun x7 K hK => ?_) (fun x8 K hK => ?_)
   ·skip
    refine wp_apOS _ _ rfl w.heap.size _ m6 _ rfl (O5.out.bw x7.bw) nm hby.out rfl nl hnl.out (by omega) (Nat.le_trans S5.out.size x7.bw.size) ?_
    intro s6 c6 w6 hc6 hm6' O6 T6 hb G6
    refine hK _ _ T6 ?_
    clear hK K
    have H6 := Lib.hid ((H5.out.bw x7.bw).st T6 (fun hm => (hng.out _ hm).2 rfl))
    have S6 := Lib.hid ((S5.out.trans (x7.bw.still [g])).fresh T6 (fun k hk => (hng.out k hk).1))
    replace hz := Lib.hid (Nat.le_trans hz.out (Nat.le_trans x7.bw.size T6.size))
    try replace V8 := Lib.hid ((V8.out.bw x7.bw).still T6 (fun k hk hm => by have := hS5 k hm; have := hg8.out; obtain rfl : k = g8 := (by simpa [Value.ownBlock] using hk.symm); omega))
    clear T6 hb G6 O5 H5 S5 hng hS5
    unfold maxLen at hm6'
    replace O6 := Lib.hid O6
    try simp only [Act.put, List.setIfInBounds_toArray, List.set_cons_succ, List.set_cons_zero]
    refine effect 8 rfl (by kernel_rfl) (by kernel_rfl) rfl (fun x8 K hK => ?_)
    go_simp
    refine hK _ _ (Still.of_below ((Below.refl _ _).alloc (Nat.le_refl _) _)) ?_
    clear hK K
    have hb8 := x8.bw.trans ((BW.refl x8.now).alloc (o := .cells #[.int .u8 0] 5))
    have V8 := Lib.hid (SB.new1 x8.now 5 0 (by decide))
    have hg8 := Lib.hid (Nat.le_trans hz.out x8.bw.size)
    replace hz := Lib.hid (Nat.le_trans hz.out hb8.size)
    first
     | (replace O6 := Lib.hid (O6.out.bw hb8); replace H6 := Lib.hid (H6.out.bw hb8); replace S6 := Lib.hid (S6.out.trans (hb8.still [g])))
     | (replace O5 := Lib.hid (O5.out.bw hb8); replace H5 := Lib.hid (H5.out.bw hb8); replace S5 := Lib.hid (S5.out.trans (hb8.still [g])))
    clear hb8
    generalize (x8.now.alloc _) = w8 at *
    generalize x8.now.heap.size = g8 at *
    try simp only [Act.put, List.setIfInBounds_toArray, List.set_cons_succ, List.set_cons_zero]
    refine effectL 9 rfl (by kernel_rfl) rfl (by kernel_rfl) rfl (fun x9 K hK => ?_)
    refine wp_apOB _ _ rfl w.heap.size _ (m6 + nl) _ rfl (O6.out.bw x9.bw) _ rfl 1 [0] (V8.out.bw x9.bw) (by omega) (Nat.le_trans S6.out.size x9.bw.size) ?_
    intro s9 c9 w9 hc9 hm9 O9 T9 hb G9
    refine hK _ _ ?_
    clear hK K
    have hng9 : ∀ k ∈ (Value.slice s6 (m6 + nl) c6).ownBlock.toList, w.heap.size ≤ k ∧ k ≠ g := fun k hk => ⟨O6.out.ge' k (by simpa using hk), fun e => O6.out.2.2.ne H6.out (by decide) k (by simpa using hk) e⟩
    have H9 := Lib.hid ((H6.out.bw x9.bw).st T9 (fun hm => (hng9 _ hm).2 rfl))
    have S9 := Lib.hid ((S6.out.trans (x9.bw.still [g])).fresh T9 (fun k hk => (hng9 k hk).1))
    unfold maxLen at hm9
    clear T9 hb G9 O6 H6 S6 hng9 V8 hg8 hz
    replace O9 := Lib.hid O9
    try simp only [Act.put, List.setIfInBounds_toArray, List.set_cons_succ, List.set_cons_zero]
    refine effect 10 rfl (by kernel_rfl) (by kernel_rfl) rfl (fun x10 K hK => ?_)
    go_simp
    refine Calls.mono (fill4_ok w.heap.size s9 (m6 + nl + 1) c9 _ (by omega) x10.now (Nat.le_trans S9.out.size x10.bw.size) (O9.out.bw x10.bw)) ?_
    rintro e w10 ⟨s10, c10, rfl, O10, hb⟩
    refine hK _ _ (hb.still []) ?_
    clear hK K
    have hb10 := x10.bw.trans hb
    have H10 := Lib.hid (H9.out.bw hb10)
    have S10 := Lib.hid (S9.out.trans (hb10.still [g]))
    clear hb hb10 H9 S9 O9
    replace O10 := Lib.hid O10
    try simp only [Act.put, List.setIfInBounds_toArray, List.set_cons_succ, List.set_cons_zero]
    refine tail 11 rfl (by kernel_rfl) rfl (fun xr => ?_)
    simp only [List.drop_succ_cons, List.drop_zero]
    have H9 := Lib.hid (H10.out.bw xr.bw)
    have O9 := Lib.hid (O10.out.bw xr.bw)
    have S9 := Lib.hid (S10.out.trans (xr.bw.still [g]))
    clear H10 O10 S10
    generalize xr.now = wa at *
    have hfl := hfin2.out
    have hML := O9.out.1
    rw [← hfl] at O9 hML
    generalize m6 + nl + 1 + pad4 (m6 + nl + 1) = Mn at *
    have f0 := hp_frz H9.out 0
    have z0 := (hp_cell H9.out 0).trans (show _ = some (.slice s5 m6 c5) from rfl)
    have H3 := Lib.hid (hp_set H9.out 0 (.slice s10 Mn c10))
    have T3 := stillR wa g 0 (.slice s10 Mn c10)
    have O11 := Lib.hid (O9.out.still T3 (fun j hj hm => O9.out.2.2.ne H9.out (by decide) j hj (by simpa using hm)))
    have S11 := Lib.hid (S9.out.trans T3)
    clear T3 H9 O9 S9
    replace hfl := Lib.hid hfl
    replace hML := Lib.hid hML
    go_wp2_with fail
    go_roundg (n - (k + 1))
    case measure => omega
    case rel => exact ⟨k + 1, rfl, by omega, by push_cast; rfl, ⟨s10, c10, by rw [hML.out]; exact H3.out, by rw [hML.out]; exact O11.out⟩, S11.out⟩
   ·skip
    go_simp
    refine hK _ _ (Still.of_below ((Below.refl _ _).alloc (Nat.le_refl _) _)) ?_
    clear hK K
    have hb8 := x8.bw.trans ((BW.refl x8.now).alloc (o := .cells #[.int .u8 0] 5))
    have V8 := Lib.hid (SB.new1 x8.now 5 0 (by decide))
    have hg8 := Lib.hid (Nat.le_trans hz.out x8.bw.size)
    replace hz := Lib.hid (Nat.le_trans hz.out hb8.size)
    first
     | (replace O6 := Lib.hid (O6.out.bw hb8); replace H6 := Lib.hid (H6.out.bw hb8); replace S6 := Lib.hid (S6.out.trans (hb8.still [g])))
     | (replace O5 := Lib.hid (O5.out.bw hb8); replace H5 := Lib.hid (H5.out.bw hb8); replace S5 := Lib.hid (S5.out.trans (hb8.still [g])))
    clear hb8
    generalize (x8.now.alloc _) = w8 at *
    generalize x8.now.heap.size = g8 at *
    try simp only [Act.put, List.setIfInBounds_toArray, List.set_cons_succ, List.set_cons_zero]
    refine effect 7 rfl (by kernel_rfl) (by kernel_rfl) rfl (fun x7 K hK => ?_)
    refine wp_apOS _ _ rfl w.heap.size _ m6 _ rfl (O5.out.bw x7.bw) nm hby.out rfl nl hnl.out (by omega) (Nat.le_trans S5.out.size x7.bw.size) ?_
    intro s6 c6 w6 hc6 hm6' O6 T6 hb G6
    refine hK _ _ T6 ?_
    clear hK K
    have H6 := Lib.hid ((H5.out.bw x7.bw).st T6 (fun hm => (hng.out _ hm).2 rfl))
    have S6 := Lib.hid ((S5.out.trans (x7.bw.still [g])).fresh T6 (fun k hk => (hng.out k hk).1))
    replace hz := Lib.hid (Nat.le_trans hz.out (Nat.le_trans x7.bw.size T6.size))
    try replace V8 := Lib.hid ((V8.out.bw x7.bw).still T6 (fun k hk hm => by have := hS5 k hm; have := hg8.out; obtain rfl : k = g8 := (by simpa [Value.ownBlock] using hk.symm); omega))
    clear T6 hb G6 O5 H5 S5 hng hS5
    unfold maxLen at hm6'
    replace O6 := Lib.hid O6
    try simp only [Act.put, List.setIfInBounds_toArray, List.set_cons_succ, List.set_cons_zero]
    refine effectL 9 rfl (by kernel_rfl) rfl (by kernel_rfl) rfl (fun x9 K hK => ?_)
    refine wp_apOB _ _ rfl w.heap.size _ (m6 + nl) _ rfl (O6.out.bw x9.bw) _ rfl 1 [0] (V8.out.bw x9.bw) (by omega) (Nat.le_trans S6.out.size x9.bw.size) ?_
    intro s9 c9 w9 hc9 hm9 O9 T9 hb G9
    refine hK _ _ ?_
    clear hK K
    have hng9 : ∀ k ∈ (Value.slice s6 (m6 + nl) c6).ownBlock.toList, w.heap.size ≤ k ∧ k ≠ g := fun k hk => ⟨O6.out.ge' k (by simpa using hk), fun e => O6.out.2.2.ne H6.out (by decide) k (by simpa using hk) e⟩
    have H9 := Lib.hid ((H6.out.bw x9.bw).st T9 (fun hm => (hng9 _ hm).2 rfl))
    have S9 := Lib.hid ((S6.out.trans (x9.bw.still [g])).fresh T9 (fun k hk => (hng9 k hk).1))
    unfold maxLen at hm9
    clear T9 hb G9 O6 H6 S6 hng9 V8 hg8 hz
    replace O9 := Lib.hid O9
    try simp only [Act.put, List.setIfInBounds_toArray, List.set_cons_succ, List.set_cons_zero]
    refine effect 10 rfl (by kernel_rfl) (by kernel_rfl) rfl (fun x10 K hK => ?_)
    go_simp
    refine Calls.mono (fill4_ok w.heap.size s9 (m6 + nl + 1) c9 _ (by omega) x10.now (Nat.le_trans S9.out.size x10.bw.size) (O9.out.bw x10.bw)) ?_
    rintro e w10 ⟨s10, c10, rfl, O10, hb⟩
    refine hK _ _ (hb.still []) ?_
    clear hK K
    have hb10 := x10.bw.trans hb
    have H10 := Lib.hid (H9.out.bw hb10)
    have S10 := Lib.hid (S9.out.trans (hb10.still [g]))
    clear hb hb10 H9 S9 O9
    replace O10 := Lib.hid O10
    try simp only [Act.put, List.setIfInBounds_toArray, List.set_cons_succ, List.set_cons_zero]
    refine tail 11 rfl (by kernel_rfl) rfl (fun xr => ?_)
    simp only [List.drop_succ_cons, List.drop_zero]
    have H9 := Lib.hid (H10.out.bw xr.bw)
    have O9 := Lib.hid (O10.out.bw xr.bw)
    have S9 := Lib.hid (S10.out.trans (xr.bw.still [g]))
    clear H10 O10 S10
    generalize xr.now = wa at *
    have hfl := hfin2.out
    have hML := O9.out.1
    rw [← hfl] at O9 hML
    generalize m6 + nl + 1 + pad4 (m6 + nl + 1) = Mn at *
    have f0 := hp_frz H9.out 0
    have z0 := (hp_cell H9.out 0).trans (show _ = some (.slice s5 m6 c5) from rfl)
    have H3 := Lib.hid (hp_set H9.out 0 (.slice s10 Mn c10))
    have T3 := stillR wa g 0 (.slice s10 Mn c10)
    have O11 := Lib.hid (O9.out.still T3 (fun j hj hm => O9.out.2.2.ne H9.out (by decide) j hj (by simpa using hm)))
    have S11 := Lib.hid (S9.out.trans T3)
    clear T3 H9 O9 S9
    replace hfl := Lib.hid hfl
    replace hML := Lib.hid hML
    go_wp2_with fail
    go_roundg (n - (k + 1))
    case measure => omega
    case rel => exact ⟨k + 1, rfl, by omega, by push_cast; rfl, ⟨s10, c10, by rw [hML.out]; exact H3.out, by rw [hML.out]; exact O11.out⟩, S11.out⟩
  ·obtain rfl : k = n := by omega
   have d : decide ((k : Int) < (k : Int)) = false := by simp
   have hp3 := hp.out
   rw [hfull.out] at hp3
   replace hp3 := Lib.hid hp3
   clear hp
   go_wp2_with fail
   go_end0
   exact ⟨rfl, hp3.out.1, hp3.out.2⟩
end Go.Proofs.Ytcempndfbckcaaa
