/- A step: drop, for a bound method (M), a closure without caps (A), a closure that has the step's variable (B); printed by wip/gen/genRmJ.py. No condition but the sizes'. -/
import Derived.Test.YtebeifkgjhgmeaaRmF
import Derived.Test.YtebeifkgjhgmeaaRmH
import Derived.Test.YtebeifkgjhgmeaaRmC
namespace Go.Proofs.Ytebeifkgjhgmeaa
open Go.RowKit
theorem HouseV.setS {w : World} {base gh : Nat} {vS : Value} {gl o n c : Nat} {S : List (List Nat)} {L : List (Mem × Value)} (h : HouseV w base gh vS (.slice (some ⟨gl, o, none⟩) n c) S L) (i : Nat) (hi : i < L.length) (v : Value) (l : List Sbs) (hv : EQ ESb 50 w base v l.length l) (h1 : v.oneCell' = true) (hap : ∀ k, v.ownBlock = some k → ∀ j (_ : j < L.length), j ≠ i → L[j].2.ownBlock ≠ some k) :
  HouseV (w.setCell ⟨gl, o + i * 9 + 7, none⟩ v) base gh vS (.slice (some ⟨gl, o, none⟩) n c) S (L.set i ({ L[i].1 with subs := l }, v)) := by
 have hn : n = L.length := by
  obtain ⟨_, _, e, _⟩ := h.mb.len
  cases e; rfl
 subst hn
 obtain ⟨cr, hcr⟩ := h.row
 have hs := still_sc w gl (o + i * 9 + 7) v
 have hne : ∀ {α : Type} {E : Elt α} {t : TypeId} {v : Value} {m : Nat} {l : List α}, EQ E t w base v m l → 45 ≠ t → ∀ g, v.ownBlock = some g → g ∉ [gl] := fun hq ht g hg hm => by
  obtain rfl : g = gl := by simpa using hm
  exact hq.ne hcr ht g hg rfl
 have hmb := EQ.setJ (a := ({ L[i].1 with subs := l }, v)) (u := v) h.mb (show NoI w gl from .inr ⟨cr, _, _, hcr, by decide⟩) i 7 (by decide) hi (fun cs ⟨va, vb, e, k0, k1, k2⟩ => ⟨va, vb, by rw [e]; rfl, h1, k1, k2⟩)
 rw [show EMb.size = 9 from rfl, ← Nat.add_assoc] at hmb
 refine ⟨h.hp.st hs fun hm => ?_, h.so.still hs (fun k hk => ?_) (hne h.so (by decide)), ?_, fun p hp => ?_, ?_⟩
 ·obtain rfl : gh = gl := by simpa using hm
  have := h.hp.symm.trans hcr
  cases this
 ·obtain rfl : k = gl := by simpa using hk
  exact .inr ⟨cr, _, _, hcr, by decide⟩
 ·rw [List.length_set]; exact hmb
 ·rcases List.mem_or_eq_of_mem_set hp with hp | rfl
  ·exact (h.sb p hp).still hs (fun _ _ => trivial) (hne (h.sb p hp) (by decide))
  ·exact hv.still hs (fun _ _ => trivial) (hne hv (by decide))
 ·rw [List.map_set]
  refine List.pairwise_iff_getElem.2 fun a b ha hb hab => ?_
  have hp := List.pairwise_iff_getElem.1 h.ap
  simp only [List.length_set, List.length_map] at ha hb
  intro k
  rw [List.getElem_set, List.getElem_set]
  split
  ·rename_i e
   subst e
   rw [if_neg (by omega), List.getElem_map]
   exact fun hk => hap k hk b hb (by omega)
  ·rw [List.getElem_map]
   split
   ·rename_i e2
    subst e2
    exact fun hk hk2 => hap k hk2 a ha (by omega) hk
   ·rw [List.getElem_map]
    have := hp a b (by simpa using ha) (by simpa using hb) hab k
    rw [List.getElem_map, List.getElem_map] at this
    exact this
theorem Still.newR {S S2 : List Nat} {w w1 w2 : World} (h1 : Still S w w1) (h2 : Still S2 w1 w2) (h : ∀ k ∈ S2, w.heap.size ≤ k) : Still S w w2 :=
 ⟨h2.os.trans h1.os, h2.tape.trans h1.tape, h2.output.trans h1.output, Nat.le_trans h1.size h2.size, fun k hk hs => (h2.block k (Nat.lt_of_lt_of_le hk h1.size) (fun hm => by have := h k hm; omega)).trans (h1.block k hk hs)⟩
theorem filter_snoc (p : Sbs → Bool) (l : List Sbs) (k : Nat) (hk : k < l.length) : (l.take (k + 1)).filter (fun x => !p x) = (l.take k).filter (fun x => !p x) ++ (if p l[k] then [] else [l[k]]) := by
 rw [List.take_succ_eq_append_getElem hk, List.filter_append]
 congr 1
 cases h : p l[k] <;> simp [h]
set_option maxRecDepth 100000 in
set_option maxHeartbeats 8000000 in
theorem sdropM (gs gh gl o n c base i : Nat) (vS : Value) (S : List (List Nat)) (L : List (Mem × Value)) (hi : i < L.length) (kd st nn rm tr ow ly : Int) (sf : Option Addr) (nf cf om : Nat) (sc : Option Addr) (nc cc : Nat) (C : List Chg) (F : FuncId) (p : Sbs → Bool) (hnc : nc ≤ 1000) (hns : L[i].1.subs.length ≤ 100) (w : World) (hbase : base ≤ w.heap.size) (h : HpB w gs (.cells (stC gh kd st nn rm tr ow ly sf nf cf gl om (.slice sc nc cc)) 73)) (hH : HouseV w base gh vS (.slice (some ⟨gl, o, none⟩) n c) S L) (hq : EQ ECh 89 w base (.slice sc nc cc) nc C)
  (hN : ∀ (args : Array Value) (w : World), (callFunc F args).run Try.prog w = .ok (.enter F args) w)
  (hF : ∀ (u : Sbs) (wx : World) (chg : Value), HpB wx gs (.cells (stC gh kd st nn rm tr ow ly sf nf cf gl om chg) 73) → Calls Try.prog F #[.pointer (some ⟨gs, 0, none⟩), .agg (sbA u)] wx fun e w' => e = .returned (.bool (p u)) ∧ BW wx w') :
  Calls Try.prog 25 #[.pointer (some ⟨gs, 0, none⟩), .int .i64 (i : Nat), .func (.func F) #[.pointer (some ⟨gs, 0, none⟩)] #[]] w fun e w' => e = .returned (.tuple #[]) ∧ ∃ (sc' : Option Addr) (nc' cc' : Nat) (C' : List Chg) (v : Value), nc' ≤ nc + L[i].1.subs.length ∧ HpB w' gs (.cells (stC gh kd st nn rm tr ow ly sf nf cf gl om (.slice sc' nc' cc')) 73) ∧ HouseV w' base gh vS (.slice (some ⟨gl, o, none⟩) n c) S (L.set i (dropM p L[i].1, v)) ∧ EQ ECh 89 w' base (.slice sc' nc' cc') nc' C' ∧ Still (gs :: gl :: (Value.slice sc nc cc).ownBlock.toList) w w' ∧ (∀ j, (Value.slice sc' nc' cc').ownBlock = some j → (Value.slice sc nc cc).ownBlock = some j ∨ w.heap.size ≤ j) := by
 obtain ⟨_, _, he, hncc, hccm⟩ := hq.len
 cases he
 unfold maxLen at hccm
 obtain ⟨va, vb, hm, -, -⟩ := hH.mem i hi
 have hsub := hH.sb L[i] (List.getElem_mem hi)
 obtain ⟨sm, cm, hsm, hcm1, hcm2⟩ := hsub.len
 unfold maxLen at hcm2
 have z7 := (hm 7 (by decide)).trans (show _ = some L[i].2 from rfl)
 rw [hsm] at z7 hsub
 have hln : n = L.length := by
  obtain ⟨_, _, e, _⟩ := hH.mb.len
  cases e; rfl
 have hcn : n ≤ c ∧ c ≤ maxLen := by
  obtain ⟨_, _, e, k1, k2⟩ := hH.mb.len
  cases e
  exact ⟨by rw [hln]; exact k1, k2⟩
 have hin : (i : Int) < (n : Int) := by omega
 have s0 := (hp_cell h 0).trans (show _ = some (.pointer (some ⟨gh, 0, none⟩)) from rfl)
 have h1 := (hp_cell hH.hp 1).trans (show _ = some (.slice (some ⟨gl, o, none⟩) n c) from rfl)
 have hown : ∀ k, (Value.slice sc nc cc).ownBlock = some k → ∃ cs, w.heap[k]? = some (.cells cs 89 (0, 0)) := hq.row
 have hS := Lib.hid h
 have hHH := Lib.hid hH
 have hQ := Lib.hid hq
 have hSub := Lib.hid hsub
 have hsl := Lib.hid hsub.1
 have hFF := Lib.hid hF
 have hOwn := Lib.hid hown
 skip
 have hdm : Hid (∀ l, l = L[i].1.subs.filter (fun x => !p x) → ({ L[i].1 with subs := l } : Mem) = dropM p L[i].1) := Lib.hid (fun l e => by subst e; rfl)
 unfold maxLen at hcn
 obtain ⟨hcn1, hcn2⟩ := hcn
 generalize hsubs : L[i].1.subs = subs at *
 generalize hnsub : subs.length = ns at *
 clear h hH hm hsub hq hF hown
 replace hsm := Lib.hid hsm
 replace hln := Lib.hid hln
 replace hsubs := Lib.hid hsubs
 replace hnsub := Lib.hid hnsub
 go_enter Try.func25, Try.ntmps25
 go_upto_region 3 with (fail)
 clear s0 h1
 go_loopg [7, 24] ns (fun m' left ix wx => ∃ (k m1 : Nat) (s1 : Option Addr) (c1 : Nat) (s2 : Option Addr) (n2 c2 : Nat) (C2 : List Chg), m' = ns - k ∧ k ≤ ns ∧ ix = .int .i64 (k : Nat) ∧ left = .slice s1 m1 c1 ∧ c1 ≤ 9223372036854775807 ∧ m1 ≤ k ∧ n2 ≤ nc + k ∧ Hid (HpB wx gs (.cells (stC gh kd st nn rm tr ow ly sf nf cf gl om (.slice s2 n2 c2)) 73)) ∧ Hid (EQ ECh 89 wx base (.slice s2 n2 c2) n2 C2) ∧ Hid (EQ ESb 50 wx w.heap.size (.slice s1 m1 c1) m1 ((subs.take k).filter fun x => !p x)) ∧ Hid (Still (gs :: (Value.slice sc nc cc).ownBlock.toList) w wx) ∧ Hid (∀ j, (Value.slice s2 n2 c2).ownBlock = some j → (Value.slice sc nc cc).ownBlock = some j ∨ w.heap.size ≤ j))
 case atStart => exact ⟨0, 0, none, 0, sc, nc, cc, C, by omega, by omega, rfl, rfl, by omega, by omega, by omega, hS, hQ, EQ.nil _ _ _ _, Still.refl _ _, fun j hj => .inl hj⟩
 case round =>
  obtain ⟨k, m1, s1, c1, s2, n2, c2, C2, rfl, hk, rfl, rfl, hc1, hm1, hn2, S2, Q2, E2, T2, G2⟩ := hrel
  have hT0 : ∀ k ∈ gs :: (Value.slice sc nc cc).ownBlock.toList, ∃ cs t f, w.heap[k]? = some (.cells cs t f) ∧ t ≠ 64 ∧ t ≠ 30 ∧ t ≠ 48 ∧ t ≠ 45 ∧ t ≠ 3 ∧ t ≠ 50 := fun k hk => by
   rcases List.mem_cons.1 hk with rfl | hk
   ·exact ⟨_, _, _, hS.out, by decide⟩
   ·obtain ⟨cs, hcs⟩ := hOwn.out k (by simpa using hk)
    exact ⟨cs, _, _, hcs, by decide⟩
  by_cases hkn : k < ns
  ·have hkD : k < subs.length := by rw [hnsub.out]; exact hkn
   have d1 : decide ((k : Int) < (ns : Int)) = true := by simp; omega
   have hSr := hSub.out.still T2.out (fun _ _ => trivial) (fun g hg hm => by
    obtain ⟨cs, t, f, k1, -, -, -, -, -, k7⟩ := hT0 g hm
    exact hSub.out.ne k1 k7 g hg rfl)
   obtain ⟨gq, oq, rfl, -, hcell⟩ := sb_form hSr (by omega)
   have hfs := filter_snoc p subs k hkD
   have hR := Lib.hid (rangeAt_of (hcell k hkD) rfl)
   generalize subs[k] = u at *
   clear hSr hcell hT0
   replace hfs := Lib.hid hfs
   have BA : BW wr (wr.alloc (.cells (sbA u) 50)) := (BW.refl wr).alloc
   have X1 := Lib.hid (HpB.new wr (.cells (sbA u) 50))
   have S3 := Lib.hid (S2.out.bw BA)
   have Q3 := Lib.hid (Q2.out.bw BA)
   have E3 := Lib.hid (E2.out.bw BA)
   have T3 := Lib.hid (T2.out.trans (BA.still _))
   skip
   clear S2 Q2 E2 T2 BA
   go_upto_region 5 with (first | (refine swLdC swSb rfl rfl rfl hR.out rfl ?_) | (refine swStN swSb rfl rfl rfl rfl rfl rfl (by kernel_rfl) ?_))
   generalize wr.alloc _ = w1 at *
   generalize wr.heap.size = gx at *
   clear hR
   try simp only [Act.put, List.setIfInBounds_toArray, List.set_cons_succ, List.set_cons_zero]
   have cF := Lib.hid (hFF.out u w1 _ S3.out)
   go_wp2_with (refine swLd swSb rfl rfl rfl X1.out rfl ?_)
   refine Calls.mono cF.out ?_
   rintro e w3 ⟨rfl, hb⟩
   replace S3 := Lib.hid (S3.out.bw hb)
   replace Q3 := Lib.hid (Q3.out.bw hb)
   replace E3 := Lib.hid (E3.out.bw hb)
   replace X1 := Lib.hid (X1.out.bw hb)
   replace T3 := Lib.hid (T3.out.trans (hb.still _))
   clear cF hb
   have BA : BW w3 (w3.alloc (.cells (sbA u) 50)) := (BW.refl w3).alloc
   have Y4 := Lib.hid (HpB.new w3 (.cells (sbA u) 50))
   have L4 : Hid (Sls (w3.alloc (.cells (sbA u) 50)) ESb.size (.slice (some ⟨w3.heap.size, 0, none⟩) 1 1) 1 (subV u)) := Lib.hid (Sls.new1 (E := ESb) w3 50 (subV u) rfl)
   have S4 := Lib.hid (S3.out.bw BA)
   have Q4 := Lib.hid (Q3.out.bw BA)
   have E4 := Lib.hid (E3.out.bw BA)
   have T4 := Lib.hid (T3.out.trans (BA.still _))
   clear S3 Q3 E3 T3 BA
   have hz4 := Lib.hid T4.out.size
   dsimp only
   cases hp : p u with
   | true =>
    rw [hp] at hfs
    have cC := Lib.hid (changed_one gs gh w3.heap.size base kd st nn rm tr ow ly sf nf cf gl om s2 n2 c2 C2 2 (i : Nat) u (by omega) _ (Nat.le_trans hbase hz4.out) S4.out Y4.out Q4.out)
    unfold sbA at cC
    replace hp := Lib.hid hp
    go_wp2_with (refine swLdM swSb rfl rfl rfl (X1.out.range 0 [.int .i64 u.o, .int .i64 u.t, .int .i64 u.l, .int .u32 (u.s : Nat)] rfl) rfl ?_)
    refine Calls.mono cC.out ?_
    rintro e w5 ⟨rfl, s6, c6, S6, Q6, T6, G6⟩
    have E6 := Lib.hid (E4.out.still T6 (fun _ _ => trivial) (fun g hg hm => by
     rcases List.mem_cons.1 hm with rfl | hm
     ·exact E4.out.ne S4.out (by decide) _ hg rfl
     ·obtain ⟨cs, hcs⟩ := Q4.out.row g (by simpa using hm)
      exact E4.out.ne hcs (by decide) _ hg rfl))
    have T7 := Lib.hid ((T4.out.own3 T6 (fun k hk => by
     rcases List.mem_cons.1 hk with rfl | hk
     ·exact .inl List.mem_cons_self
     ·rcases G2.out k (by simpa using hk) with h | h
      ·exact .inl (List.mem_cons_of_mem _ (by simpa using h))
      ·exact .inr h)))
    have G7 := Lib.hid (fun j hj => (G6 j hj).elim (fun h => G2.out j h) (fun h => .inr (Nat.le_trans hz4.out h)) : ∀ j, (Value.slice s6 (n2 + 1) c6).ownBlock = some j → (Value.slice sc nc cc).ownBlock = some j ∨ w.heap.size ≤ j)
    replace S6 := Lib.hid S6
    replace Q6 := Lib.hid Q6
    clear T6 G6 cC S4 Q4 E4 T4 Y4 L4 X1
    dsimp only
    go_wp2_with fail
    go_roundg (ns - (k + 1))
    case measure => omega
    case rel => exact ⟨k + 1, m1, s1, c1, s6, n2 + 1, c6, _, rfl, by omega, by first | rfl | (push_cast; rfl), rfl, hc1, by omega, by omega, S6, Q6, by rw [hfs.out]; simpa using E6, T7, G7⟩
   | false =>
    rw [hp] at hfs
    unfold sbA at L4 S4 Q4 E4 T4
    replace hp := Lib.hid hp
    go_upto_region 8 with (first | (refine swLdM swSb rfl rfl rfl (X1.out.range 0 [.int .i64 u.o, .int .i64 u.t, .int .i64 u.l, .int .u32 (u.s : Nat)] rfl) rfl ?_) | (at_builtin; go_must (refine wpList_apEQ slSb rfl _ _ rfl w.heap.size (.slice s1 m1 c1) m1 _ rfl E4.out _ rfl 1 [u] (subV u) L4.out (EL.single rfl) rfl (by omega) hz4.out (fun _ _ => trivial) ?_; intro s5 c5 w5 hc5 hm5 E5 T5 B5 G5; unfold maxLen at hm5; replace E5 := Lib.hid E5; replace T5 := Lib.hid T5; clear B5 G5)))
    have hnl : ∀ {α : Type} {E : Elt α} {t : TypeId} {v : Value} {m : Nat} {l : List α} , True := fun {_ _ _ _ _ _} => trivial
    clear hnl
    have S6 := Lib.hid (S4.out.st T5.out (fun hm => E4.out.ne S4.out (by decide) _ (by simpa using hm) rfl))
    have Q6 := Lib.hid (Q4.out.still T5.out (fun _ _ => trivial) (fun g hg hm => by
     obtain ⟨cs, hcs⟩ := E4.out.row g (by simpa using hm)
     exact Q4.out.ne hcs (by decide) _ hg rfl))
    have T7 := Lib.hid (T4.out.newR T5.out (fun k hk => E4.out.ge' k (by simpa using hk)))
    clear T5 S4 Q4 E4 T4 Y4 L4 X1
    try simp only [Act.put, List.setIfInBounds_toArray, List.set_cons_succ, List.set_cons_zero]
    go_wp2_with fail
    go_roundg (ns - (k + 1))
    case measure => omega
    case rel => exact ⟨k + 1, m1 + 1, s5, c5, s2, n2, c2, C2, rfl, by omega, by first | rfl | (push_cast; rfl), rfl, by omega, by omega, by omega, S6, Q6, by rw [hfs.out]; simpa using E5, T7, G2⟩
  ·obtain rfl : k = ns := by omega
   have d1 : decide ((k : Int) < (k : Int)) = false := by simp
   have Hr := hHH.out.st T2.out hT0
   obtain ⟨va1, vb1, hm2, -, -⟩ := Hr.mem i hi
   have z7 := (hm2 7 (by decide)).trans (show _ = some L[i].2 from rfl)
   rw [hsm.out] at z7
   obtain ⟨cr, hcr⟩ := Hr.row
   have y7 : wr.frozen? ⟨gl, o + i * 9 + 7, none⟩ = false := hp_frz hcr _
   have htk : subs.take k = subs := List.take_of_length_le (by rw [hnsub.out]; exact Nat.le_refl _)
   have E3 := E2.out
   rw [htk] at E3
   have hH2 := Hr.setS i hi (.slice s1 m1 c1) (subs.filter fun x => !p x) (E3.up hbase).full rfl (fun kk hkk j hj _ hj2 => by
    have h1 := E3.ge' kk hkk
    have h2 := (hHH.out.sb L[j] (List.getElem_mem hj)).lt' kk hj2
    omega)
   rw [hdm.out _ rfl] at hH2
   have T3 := still_sc wr gl (o + i * 9 + 7) (.slice s1 m1 c1)
   have S3 := Lib.hid (S2.out.st T3 (fun hm => by
    obtain rfl : gs = gl := by simpa using hm
    have := S2.out.symm.trans hcr
    cases this))
   have Q3 := Lib.hid (Q2.out.still T3 (fun _ _ => trivial) (fun g hg hm => by
    obtain rfl : g = gl := by simpa using hm
    exact Q2.out.ne hcr (by decide) _ hg rfl))
   have T4 := Lib.hid ((T2.out.weaken (S' := gs :: gl :: (Value.slice sc nc cc).ownBlock.toList) (fun x hx => by
    rcases List.mem_cons.1 hx with rfl | hx
    ·exact List.mem_cons_self
    ·exact List.mem_cons_of_mem _ (List.mem_cons_of_mem _ hx))).trans (T3.weaken (fun x hx => by
    obtain rfl : x = gl := by simpa using hx
    simp)))
   replace hH2 := Lib.hid hH2
   clear T3 Hr hm2 E3 S2 Q2 E2 T2 hT0 htk
   replace hcr := Lib.hid hcr
   go_wp2_with fail
   go_end0
   exact ⟨rfl, s2, n2, c2, C2, _, by omega, S3.out, hH2.out, Q3.out, T4.out, G2.out⟩
set_option maxRecDepth 100000 in
set_option maxHeartbeats 8000000 in
theorem sdropA (gs gh gl o n c base i : Nat) (vS : Value) (S : List (List Nat)) (L : List (Mem × Value)) (hi : i < L.length) (kd st nn rm tr ow ly : Int) (sf : Option Addr) (nf cf om : Nat) (sc : Option Addr) (nc cc : Nat) (C : List Chg) (F : FuncId) (p : Sbs → Bool) (hnc : nc ≤ 1000) (hns : L[i].1.subs.length ≤ 100) (w : World) (hbase : base ≤ w.heap.size) (h : HpB w gs (.cells (stC gh kd st nn rm tr ow ly sf nf cf gl om (.slice sc nc cc)) 73)) (hH : HouseV w base gh vS (.slice (some ⟨gl, o, none⟩) n c) S L) (hq : EQ ECh 89 w base (.slice sc nc cc) nc C)
  (hN : ∀ (args : Array Value) (w : World), (callFunc F args).run Try.prog w = .ok (.enter F args) w)
  (hF : ∀ (u : Sbs) (wx : World) (chg : Value), HpB wx gs (.cells (stC gh kd st nn rm tr ow ly sf nf cf gl om chg) 73) → Calls Try.prog F #[.agg (sbA u)] wx fun e w' => e = .returned (.bool (p u)) ∧ BW wx w') :
  Calls Try.prog 25 #[.pointer (some ⟨gs, 0, none⟩), .int .i64 (i : Nat), .func (.func F) #[] #[]] w fun e w' => e = .returned (.tuple #[]) ∧ ∃ (sc' : Option Addr) (nc' cc' : Nat) (C' : List Chg) (v : Value), nc' ≤ nc + L[i].1.subs.length ∧ HpB w' gs (.cells (stC gh kd st nn rm tr ow ly sf nf cf gl om (.slice sc' nc' cc')) 73) ∧ HouseV w' base gh vS (.slice (some ⟨gl, o, none⟩) n c) S (L.set i (dropM p L[i].1, v)) ∧ EQ ECh 89 w' base (.slice sc' nc' cc') nc' C' ∧ Still (gs :: gl :: (Value.slice sc nc cc).ownBlock.toList) w w' ∧ (∀ j, (Value.slice sc' nc' cc').ownBlock = some j → (Value.slice sc nc cc).ownBlock = some j ∨ w.heap.size ≤ j) := by
 obtain ⟨_, _, he, hncc, hccm⟩ := hq.len
 cases he
 unfold maxLen at hccm
 obtain ⟨va, vb, hm, -, -⟩ := hH.mem i hi
 have hsub := hH.sb L[i] (List.getElem_mem hi)
 obtain ⟨sm, cm, hsm, hcm1, hcm2⟩ := hsub.len
 unfold maxLen at hcm2
 have z7 := (hm 7 (by decide)).trans (show _ = some L[i].2 from rfl)
 rw [hsm] at z7 hsub
 have hln : n = L.length := by
  obtain ⟨_, _, e, _⟩ := hH.mb.len
  cases e; rfl
 have hcn : n ≤ c ∧ c ≤ maxLen := by
  obtain ⟨_, _, e, k1, k2⟩ := hH.mb.len
  cases e
  exact ⟨by rw [hln]; exact k1, k2⟩
 have hin : (i : Int) < (n : Int) := by omega
 have s0 := (hp_cell h 0).trans (show _ = some (.pointer (some ⟨gh, 0, none⟩)) from rfl)
 have h1 := (hp_cell hH.hp 1).trans (show _ = some (.slice (some ⟨gl, o, none⟩) n c) from rfl)
 have hown : ∀ k, (Value.slice sc nc cc).ownBlock = some k → ∃ cs, w.heap[k]? = some (.cells cs 89 (0, 0)) := hq.row
 have hS := Lib.hid h
 have hHH := Lib.hid hH
 have hQ := Lib.hid hq
 have hSub := Lib.hid hsub
 have hsl := Lib.hid hsub.1
 have hFF := Lib.hid hF
 have hOwn := Lib.hid hown
 skip
 have hdm : Hid (∀ l, l = L[i].1.subs.filter (fun x => !p x) → ({ L[i].1 with subs := l } : Mem) = dropM p L[i].1) := Lib.hid (fun l e => by subst e; rfl)
 unfold maxLen at hcn
 obtain ⟨hcn1, hcn2⟩ := hcn
 generalize hsubs : L[i].1.subs = subs at *
 generalize hnsub : subs.length = ns at *
 clear h hH hm hsub hq hF hown
 replace hsm := Lib.hid hsm
 replace hln := Lib.hid hln
 replace hsubs := Lib.hid hsubs
 replace hnsub := Lib.hid hnsub
 go_enter Try.func25, Try.ntmps25
 go_upto_region 3 with (fail)
 clear s0 h1
 go_loopg [7, 24] ns (fun m' left ix wx => ∃ (k m1 : Nat) (s1 : Option Addr) (c1 : Nat) (s2 : Option Addr) (n2 c2 : Nat) (C2 : List Chg), m' = ns - k ∧ k ≤ ns ∧ ix = .int .i64 (k : Nat) ∧ left = .slice s1 m1 c1 ∧ c1 ≤ 9223372036854775807 ∧ m1 ≤ k ∧ n2 ≤ nc + k ∧ Hid (HpB wx gs (.cells (stC gh kd st nn rm tr ow ly sf nf cf gl om (.slice s2 n2 c2)) 73)) ∧ Hid (EQ ECh 89 wx base (.slice s2 n2 c2) n2 C2) ∧ Hid (EQ ESb 50 wx w.heap.size (.slice s1 m1 c1) m1 ((subs.take k).filter fun x => !p x)) ∧ Hid (Still (gs :: (Value.slice sc nc cc).ownBlock.toList) w wx) ∧ Hid (∀ j, (Value.slice s2 n2 c2).ownBlock = some j → (Value.slice sc nc cc).ownBlock = some j ∨ w.heap.size ≤ j))
 case atStart => exact ⟨0, 0, none, 0, sc, nc, cc, C, by omega, by omega, rfl, rfl, by omega, by omega, by omega, hS, hQ, EQ.nil _ _ _ _, Still.refl _ _, fun j hj => .inl hj⟩
 case round =>
  obtain ⟨k, m1, s1, c1, s2, n2, c2, C2, rfl, hk, rfl, rfl, hc1, hm1, hn2, S2, Q2, E2, T2, G2⟩ := hrel
  have hT0 : ∀ k ∈ gs :: (Value.slice sc nc cc).ownBlock.toList, ∃ cs t f, w.heap[k]? = some (.cells cs t f) ∧ t ≠ 64 ∧ t ≠ 30 ∧ t ≠ 48 ∧ t ≠ 45 ∧ t ≠ 3 ∧ t ≠ 50 := fun k hk => by
   rcases List.mem_cons.1 hk with rfl | hk
   ·exact ⟨_, _, _, hS.out, by decide⟩
   ·obtain ⟨cs, hcs⟩ := hOwn.out k (by simpa using hk)
    exact ⟨cs, _, _, hcs, by decide⟩
  by_cases hkn : k < ns
  ·have hkD : k < subs.length := by rw [hnsub.out]; exact hkn
   have d1 : decide ((k : Int) < (ns : Int)) = true := by simp; omega
   have hSr := hSub.out.still T2.out (fun _ _ => trivial) (fun g hg hm => by
    obtain ⟨cs, t, f, k1, -, -, -, -, -, k7⟩ := hT0 g hm
    exact hSub.out.ne k1 k7 g hg rfl)
   obtain ⟨gq, oq, rfl, -, hcell⟩ := sb_form hSr (by omega)
   have hfs := filter_snoc p subs k hkD
   have hR := Lib.hid (rangeAt_of (hcell k hkD) rfl)
   generalize subs[k] = u at *
   clear hSr hcell hT0
   replace hfs := Lib.hid hfs
   have BA : BW wr (wr.alloc (.cells (sbA u) 50)) := (BW.refl wr).alloc
   have X1 := Lib.hid (HpB.new wr (.cells (sbA u) 50))
   have S3 := Lib.hid (S2.out.bw BA)
   have Q3 := Lib.hid (Q2.out.bw BA)
   have E3 := Lib.hid (E2.out.bw BA)
   have T3 := Lib.hid (T2.out.trans (BA.still _))
   skip
   clear S2 Q2 E2 T2 BA
   go_upto_region 5 with (first | (refine swLdC swSb rfl rfl rfl hR.out rfl ?_) | (refine swStN swSb rfl rfl rfl rfl rfl rfl (by kernel_rfl) ?_))
   generalize wr.alloc _ = w1 at *
   generalize wr.heap.size = gx at *
   clear hR
   try simp only [Act.put, List.setIfInBounds_toArray, List.set_cons_succ, List.set_cons_zero]
   have cF := Lib.hid (hFF.out u w1 _ S3.out)
   go_wp2_with (refine swLd swSb rfl rfl rfl X1.out rfl ?_)
   refine Calls.mono cF.out ?_
   rintro e w3 ⟨rfl, hb⟩
   replace S3 := Lib.hid (S3.out.bw hb)
   replace Q3 := Lib.hid (Q3.out.bw hb)
   replace E3 := Lib.hid (E3.out.bw hb)
   replace X1 := Lib.hid (X1.out.bw hb)
   replace T3 := Lib.hid (T3.out.trans (hb.still _))
   clear cF hb
   have BA : BW w3 (w3.alloc (.cells (sbA u) 50)) := (BW.refl w3).alloc
   have Y4 := Lib.hid (HpB.new w3 (.cells (sbA u) 50))
   have L4 : Hid (Sls (w3.alloc (.cells (sbA u) 50)) ESb.size (.slice (some ⟨w3.heap.size, 0, none⟩) 1 1) 1 (subV u)) := Lib.hid (Sls.new1 (E := ESb) w3 50 (subV u) rfl)
   have S4 := Lib.hid (S3.out.bw BA)
   have Q4 := Lib.hid (Q3.out.bw BA)
   have E4 := Lib.hid (E3.out.bw BA)
   have T4 := Lib.hid (T3.out.trans (BA.still _))
   clear S3 Q3 E3 T3 BA
   have hz4 := Lib.hid T4.out.size
   dsimp only
   cases hp : p u with
   | true =>
    rw [hp] at hfs
    have cC := Lib.hid (changed_one gs gh w3.heap.size base kd st nn rm tr ow ly sf nf cf gl om s2 n2 c2 C2 2 (i : Nat) u (by omega) _ (Nat.le_trans hbase hz4.out) S4.out Y4.out Q4.out)
    unfold sbA at cC
    replace hp := Lib.hid hp
    go_wp2_with (refine swLdM swSb rfl rfl rfl (X1.out.range 0 [.int .i64 u.o, .int .i64 u.t, .int .i64 u.l, .int .u32 (u.s : Nat)] rfl) rfl ?_)
    refine Calls.mono cC.out ?_
    rintro e w5 ⟨rfl, s6, c6, S6, Q6, T6, G6⟩
    have E6 := Lib.hid (E4.out.still T6 (fun _ _ => trivial) (fun g hg hm => by
     rcases List.mem_cons.1 hm with rfl | hm
     ·exact E4.out.ne S4.out (by decide) _ hg rfl
     ·obtain ⟨cs, hcs⟩ := Q4.out.row g (by simpa using hm)
      exact E4.out.ne hcs (by decide) _ hg rfl))
    have T7 := Lib.hid ((T4.out.own3 T6 (fun k hk => by
     rcases List.mem_cons.1 hk with rfl | hk
     ·exact .inl List.mem_cons_self
     ·rcases G2.out k (by simpa using hk) with h | h
      ·exact .inl (List.mem_cons_of_mem _ (by simpa using h))
      ·exact .inr h)))
    have G7 := Lib.hid (fun j hj => (G6 j hj).elim (fun h => G2.out j h) (fun h => .inr (Nat.le_trans hz4.out h)) : ∀ j, (Value.slice s6 (n2 + 1) c6).ownBlock = some j → (Value.slice sc nc cc).ownBlock = some j ∨ w.heap.size ≤ j)
    replace S6 := Lib.hid S6
    replace Q6 := Lib.hid Q6
    clear T6 G6 cC S4 Q4 E4 T4 Y4 L4 X1
    dsimp only
    go_wp2_with fail
    go_roundg (ns - (k + 1))
    case measure => omega
    case rel => exact ⟨k + 1, m1, s1, c1, s6, n2 + 1, c6, _, rfl, by omega, by first | rfl | (push_cast; rfl), rfl, hc1, by omega, by omega, S6, Q6, by rw [hfs.out]; simpa using E6, T7, G7⟩
   | false =>
    rw [hp] at hfs
    unfold sbA at L4 S4 Q4 E4 T4
    replace hp := Lib.hid hp
    go_upto_region 8 with (first | (refine swLdM swSb rfl rfl rfl (X1.out.range 0 [.int .i64 u.o, .int .i64 u.t, .int .i64 u.l, .int .u32 (u.s : Nat)] rfl) rfl ?_) | (at_builtin; go_must (refine wpList_apEQ slSb rfl _ _ rfl w.heap.size (.slice s1 m1 c1) m1 _ rfl E4.out _ rfl 1 [u] (subV u) L4.out (EL.single rfl) rfl (by omega) hz4.out (fun _ _ => trivial) ?_; intro s5 c5 w5 hc5 hm5 E5 T5 B5 G5; unfold maxLen at hm5; replace E5 := Lib.hid E5; replace T5 := Lib.hid T5; clear B5 G5)))
    have hnl : ∀ {α : Type} {E : Elt α} {t : TypeId} {v : Value} {m : Nat} {l : List α} , True := fun {_ _ _ _ _ _} => trivial
    clear hnl
    have S6 := Lib.hid (S4.out.st T5.out (fun hm => E4.out.ne S4.out (by decide) _ (by simpa using hm) rfl))
    have Q6 := Lib.hid (Q4.out.still T5.out (fun _ _ => trivial) (fun g hg hm => by
     obtain ⟨cs, hcs⟩ := E4.out.row g (by simpa using hm)
     exact Q4.out.ne hcs (by decide) _ hg rfl))
    have T7 := Lib.hid (T4.out.newR T5.out (fun k hk => E4.out.ge' k (by simpa using hk)))
    clear T5 S4 Q4 E4 T4 Y4 L4 X1
    try simp only [Act.put, List.setIfInBounds_toArray, List.set_cons_succ, List.set_cons_zero]
    go_wp2_with fail
    go_roundg (ns - (k + 1))
    case measure => omega
    case rel => exact ⟨k + 1, m1 + 1, s5, c5, s2, n2, c2, C2, rfl, by omega, by first | rfl | (push_cast; rfl), rfl, by omega, by omega, by omega, S6, Q6, by rw [hfs.out]; simpa using E5, T7, G2⟩
  ·obtain rfl : k = ns := by omega
   have d1 : decide ((k : Int) < (k : Int)) = false := by simp
   have Hr := hHH.out.st T2.out hT0
   obtain ⟨va1, vb1, hm2, -, -⟩ := Hr.mem i hi
   have z7 := (hm2 7 (by decide)).trans (show _ = some L[i].2 from rfl)
   rw [hsm.out] at z7
   obtain ⟨cr, hcr⟩ := Hr.row
   have y7 : wr.frozen? ⟨gl, o + i * 9 + 7, none⟩ = false := hp_frz hcr _
   have htk : subs.take k = subs := List.take_of_length_le (by rw [hnsub.out]; exact Nat.le_refl _)
   have E3 := E2.out
   rw [htk] at E3
   have hH2 := Hr.setS i hi (.slice s1 m1 c1) (subs.filter fun x => !p x) (E3.up hbase).full rfl (fun kk hkk j hj _ hj2 => by
    have h1 := E3.ge' kk hkk
    have h2 := (hHH.out.sb L[j] (List.getElem_mem hj)).lt' kk hj2
    omega)
   rw [hdm.out _ rfl] at hH2
   have T3 := still_sc wr gl (o + i * 9 + 7) (.slice s1 m1 c1)
   have S3 := Lib.hid (S2.out.st T3 (fun hm => by
    obtain rfl : gs = gl := by simpa using hm
    have := S2.out.symm.trans hcr
    cases this))
   have Q3 := Lib.hid (Q2.out.still T3 (fun _ _ => trivial) (fun g hg hm => by
    obtain rfl : g = gl := by simpa using hm
    exact Q2.out.ne hcr (by decide) _ hg rfl))
   have T4 := Lib.hid ((T2.out.weaken (S' := gs :: gl :: (Value.slice sc nc cc).ownBlock.toList) (fun x hx => by
    rcases List.mem_cons.1 hx with rfl | hx
    ·exact List.mem_cons_self
    ·exact List.mem_cons_of_mem _ (List.mem_cons_of_mem _ hx))).trans (T3.weaken (fun x hx => by
    obtain rfl : x = gl := by simpa using hx
    simp)))
   replace hH2 := Lib.hid hH2
   clear T3 Hr hm2 E3 S2 Q2 E2 T2 hT0 htk
   replace hcr := Lib.hid hcr
   go_wp2_with fail
   go_end0
   exact ⟨rfl, s2, n2, c2, C2, _, by omega, S3.out, hH2.out, Q3.out, T4.out, G2.out⟩
set_option maxRecDepth 100000 in
set_option maxHeartbeats 8000000 in
theorem sdropB (gs gh gl o n c base i : Nat) (gv : Nat) (vS : Value) (S : List (List Nat)) (L : List (Mem × Value)) (hi : i < L.length) (kd st nn rm tr ow ly : Int) (sf : Option Addr) (nf cf om : Nat) (sc : Option Addr) (nc cc : Nat) (C : List Chg) (F : FuncId) (p : Sbs → Bool) (hnc : nc ≤ 1000) (hns : L[i].1.subs.length ≤ 100) (w : World) (hbase : base ≤ w.heap.size) (h : HpB w gs (.cells (stC gh kd st nn rm tr ow ly sf nf cf gl om (.slice sc nc cc)) 73)) (hH : HouseV w base gh vS (.slice (some ⟨gl, o, none⟩) n c) S L) (hq : EQ ECh 89 w base (.slice sc nc cc) nc C) (hgv : HpB w gv (.cells #[.pointer (some ⟨gs, 0, none⟩)] 70))
  (hN : ∀ (args : Array Value) (w : World), (callFunc F args).run Try.prog w = .ok (.enter F args) w)
  (hF : ∀ (u : Sbs) (wx : World) (chg : Value), HpB wx gs (.cells (stC gh kd st nn rm tr ow ly sf nf cf gl om chg) 73) → wx.cell? ⟨gv, 0, none⟩ = some (.pointer (some ⟨gs, 0, none⟩)) → Calls Try.prog F #[.agg (sbA u), .pointer (some ⟨gv, 0, none⟩)] wx fun e w' => e = .returned (.bool (p u)) ∧ BW wx w') :
  Calls Try.prog 25 #[.pointer (some ⟨gs, 0, none⟩), .int .i64 (i : Nat), .func (.func F) #[] #[.pointer (some ⟨gv, 0, none⟩)]] w fun e w' => e = .returned (.tuple #[]) ∧ ∃ (sc' : Option Addr) (nc' cc' : Nat) (C' : List Chg) (v : Value), nc' ≤ nc + L[i].1.subs.length ∧ HpB w' gs (.cells (stC gh kd st nn rm tr ow ly sf nf cf gl om (.slice sc' nc' cc')) 73) ∧ HouseV w' base gh vS (.slice (some ⟨gl, o, none⟩) n c) S (L.set i (dropM p L[i].1, v)) ∧ EQ ECh 89 w' base (.slice sc' nc' cc') nc' C' ∧ Still (gs :: gl :: (Value.slice sc nc cc).ownBlock.toList) w w' ∧ (∀ j, (Value.slice sc' nc' cc').ownBlock = some j → (Value.slice sc nc cc).ownBlock = some j ∨ w.heap.size ≤ j) := by
 obtain ⟨_, _, he, hncc, hccm⟩ := hq.len
 cases he
 unfold maxLen at hccm
 obtain ⟨va, vb, hm, -, -⟩ := hH.mem i hi
 have hsub := hH.sb L[i] (List.getElem_mem hi)
 obtain ⟨sm, cm, hsm, hcm1, hcm2⟩ := hsub.len
 unfold maxLen at hcm2
 have z7 := (hm 7 (by decide)).trans (show _ = some L[i].2 from rfl)
 rw [hsm] at z7 hsub
 have hln : n = L.length := by
  obtain ⟨_, _, e, _⟩ := hH.mb.len
  cases e; rfl
 have hcn : n ≤ c ∧ c ≤ maxLen := by
  obtain ⟨_, _, e, k1, k2⟩ := hH.mb.len
  cases e
  exact ⟨by rw [hln]; exact k1, k2⟩
 have hin : (i : Int) < (n : Int) := by omega
 have s0 := (hp_cell h 0).trans (show _ = some (.pointer (some ⟨gh, 0, none⟩)) from rfl)
 have h1 := (hp_cell hH.hp 1).trans (show _ = some (.slice (some ⟨gl, o, none⟩) n c) from rfl)
 have hown : ∀ k, (Value.slice sc nc cc).ownBlock = some k → ∃ cs, w.heap[k]? = some (.cells cs 89 (0, 0)) := hq.row
 have hS := Lib.hid h
 have hHH := Lib.hid hH
 have hQ := Lib.hid hq
 have hSub := Lib.hid hsub
 have hsl := Lib.hid hsub.1
 have hFF := Lib.hid hF
 have hOwn := Lib.hid hown
 have hGv := Lib.hid hgv
 clear hgv
 have hdm : Hid (∀ l, l = L[i].1.subs.filter (fun x => !p x) → ({ L[i].1 with subs := l } : Mem) = dropM p L[i].1) := Lib.hid (fun l e => by subst e; rfl)
 unfold maxLen at hcn
 obtain ⟨hcn1, hcn2⟩ := hcn
 generalize hsubs : L[i].1.subs = subs at *
 generalize hnsub : subs.length = ns at *
 clear h hH hm hsub hq hF hown
 replace hsm := Lib.hid hsm
 replace hln := Lib.hid hln
 replace hsubs := Lib.hid hsubs
 replace hnsub := Lib.hid hnsub
 go_enter Try.func25, Try.ntmps25
 go_upto_region 3 with (fail)
 clear s0 h1
 go_loopg [7, 24] ns (fun m' left ix wx => ∃ (k m1 : Nat) (s1 : Option Addr) (c1 : Nat) (s2 : Option Addr) (n2 c2 : Nat) (C2 : List Chg), m' = ns - k ∧ k ≤ ns ∧ ix = .int .i64 (k : Nat) ∧ left = .slice s1 m1 c1 ∧ c1 ≤ 9223372036854775807 ∧ m1 ≤ k ∧ n2 ≤ nc + k ∧ Hid (HpB wx gs (.cells (stC gh kd st nn rm tr ow ly sf nf cf gl om (.slice s2 n2 c2)) 73)) ∧ Hid (EQ ECh 89 wx base (.slice s2 n2 c2) n2 C2) ∧ Hid (EQ ESb 50 wx w.heap.size (.slice s1 m1 c1) m1 ((subs.take k).filter fun x => !p x)) ∧ Hid (Still (gs :: (Value.slice sc nc cc).ownBlock.toList) w wx) ∧ Hid (∀ j, (Value.slice s2 n2 c2).ownBlock = some j → (Value.slice sc nc cc).ownBlock = some j ∨ w.heap.size ≤ j))
 case atStart => exact ⟨0, 0, none, 0, sc, nc, cc, C, by omega, by omega, rfl, rfl, by omega, by omega, by omega, hS, hQ, EQ.nil _ _ _ _, Still.refl _ _, fun j hj => .inl hj⟩
 case round =>
  obtain ⟨k, m1, s1, c1, s2, n2, c2, C2, rfl, hk, rfl, rfl, hc1, hm1, hn2, S2, Q2, E2, T2, G2⟩ := hrel
  have hT0 : ∀ k ∈ gs :: (Value.slice sc nc cc).ownBlock.toList, ∃ cs t f, w.heap[k]? = some (.cells cs t f) ∧ t ≠ 64 ∧ t ≠ 30 ∧ t ≠ 48 ∧ t ≠ 45 ∧ t ≠ 3 ∧ t ≠ 50 := fun k hk => by
   rcases List.mem_cons.1 hk with rfl | hk
   ·exact ⟨_, _, _, hS.out, by decide⟩
   ·obtain ⟨cs, hcs⟩ := hOwn.out k (by simpa using hk)
    exact ⟨cs, _, _, hcs, by decide⟩
  by_cases hkn : k < ns
  ·have hkD : k < subs.length := by rw [hnsub.out]; exact hkn
   have d1 : decide ((k : Int) < (ns : Int)) = true := by simp; omega
   have hSr := hSub.out.still T2.out (fun _ _ => trivial) (fun g hg hm => by
    obtain ⟨cs, t, f, k1, -, -, -, -, -, k7⟩ := hT0 g hm
    exact hSub.out.ne k1 k7 g hg rfl)
   obtain ⟨gq, oq, rfl, -, hcell⟩ := sb_form hSr (by omega)
   have hfs := filter_snoc p subs k hkD
   have hR := Lib.hid (rangeAt_of (hcell k hkD) rfl)
   generalize subs[k] = u at *
   clear hSr hcell hT0
   replace hfs := Lib.hid hfs
   have BA : BW wr (wr.alloc (.cells (sbA u) 50)) := (BW.refl wr).alloc
   have X1 := Lib.hid (HpB.new wr (.cells (sbA u) 50))
   have S3 := Lib.hid (S2.out.bw BA)
   have Q3 := Lib.hid (Q2.out.bw BA)
   have E3 := Lib.hid (E2.out.bw BA)
   have T3 := Lib.hid (T2.out.trans (BA.still _))
   have hgv1 : Hid ((wr.alloc (.cells (sbA u) 50)).cell? ⟨gv, 0, none⟩ = some (.pointer (some ⟨gs, 0, none⟩))) := Lib.hid ((hp_cell ((hGv.out.st T2.out (fun hm => by
    rcases List.mem_cons.1 hm with rfl | hm
    ·have := hGv.out.symm.trans hS.out
     cases this
    ·obtain ⟨cs, hcs⟩ := hOwn.out gv (by simpa using hm)
     have := hGv.out.symm.trans hcs
     cases this)).bw BA) 0).trans rfl)
   clear S2 Q2 E2 T2 BA
   go_upto_region 5 with (first | (refine swLdC swSb rfl rfl rfl hR.out rfl ?_) | (refine swStN swSb rfl rfl rfl rfl rfl rfl (by kernel_rfl) ?_))
   generalize wr.alloc _ = w1 at *
   generalize wr.heap.size = gx at *
   clear hR
   try simp only [Act.put, List.setIfInBounds_toArray, List.set_cons_succ, List.set_cons_zero]
   have cF := Lib.hid (hFF.out u w1 _ S3.out hgv1.out)
   go_wp2_with (refine swLd swSb rfl rfl rfl X1.out rfl ?_)
   refine Calls.mono cF.out ?_
   rintro e w3 ⟨rfl, hb⟩
   replace S3 := Lib.hid (S3.out.bw hb)
   replace Q3 := Lib.hid (Q3.out.bw hb)
   replace E3 := Lib.hid (E3.out.bw hb)
   replace X1 := Lib.hid (X1.out.bw hb)
   replace T3 := Lib.hid (T3.out.trans (hb.still _))
   clear cF hb
   have BA : BW w3 (w3.alloc (.cells (sbA u) 50)) := (BW.refl w3).alloc
   have Y4 := Lib.hid (HpB.new w3 (.cells (sbA u) 50))
   have L4 : Hid (Sls (w3.alloc (.cells (sbA u) 50)) ESb.size (.slice (some ⟨w3.heap.size, 0, none⟩) 1 1) 1 (subV u)) := Lib.hid (Sls.new1 (E := ESb) w3 50 (subV u) rfl)
   have S4 := Lib.hid (S3.out.bw BA)
   have Q4 := Lib.hid (Q3.out.bw BA)
   have E4 := Lib.hid (E3.out.bw BA)
   have T4 := Lib.hid (T3.out.trans (BA.still _))
   clear S3 Q3 E3 T3 BA
   have hz4 := Lib.hid T4.out.size
   dsimp only
   cases hp : p u with
   | true =>
    rw [hp] at hfs
    have cC := Lib.hid (changed_one gs gh w3.heap.size base kd st nn rm tr ow ly sf nf cf gl om s2 n2 c2 C2 2 (i : Nat) u (by omega) _ (Nat.le_trans hbase hz4.out) S4.out Y4.out Q4.out)
    unfold sbA at cC
    replace hp := Lib.hid hp
    go_wp2_with (refine swLdM swSb rfl rfl rfl (X1.out.range 0 [.int .i64 u.o, .int .i64 u.t, .int .i64 u.l, .int .u32 (u.s : Nat)] rfl) rfl ?_)
    refine Calls.mono cC.out ?_
    rintro e w5 ⟨rfl, s6, c6, S6, Q6, T6, G6⟩
    have E6 := Lib.hid (E4.out.still T6 (fun _ _ => trivial) (fun g hg hm => by
     rcases List.mem_cons.1 hm with rfl | hm
     ·exact E4.out.ne S4.out (by decide) _ hg rfl
     ·obtain ⟨cs, hcs⟩ := Q4.out.row g (by simpa using hm)
      exact E4.out.ne hcs (by decide) _ hg rfl))
    have T7 := Lib.hid ((T4.out.own3 T6 (fun k hk => by
     rcases List.mem_cons.1 hk with rfl | hk
     ·exact .inl List.mem_cons_self
     ·rcases G2.out k (by simpa using hk) with h | h
      ·exact .inl (List.mem_cons_of_mem _ (by simpa using h))
      ·exact .inr h)))
    have G7 := Lib.hid (fun j hj => (G6 j hj).elim (fun h => G2.out j h) (fun h => .inr (Nat.le_trans hz4.out h)) : ∀ j, (Value.slice s6 (n2 + 1) c6).ownBlock = some j → (Value.slice sc nc cc).ownBlock = some j ∨ w.heap.size ≤ j)
    replace S6 := Lib.hid S6
    replace Q6 := Lib.hid Q6
    clear T6 G6 cC S4 Q4 E4 T4 Y4 L4 X1
    dsimp only
    go_wp2_with fail
    go_roundg (ns - (k + 1))
    case measure => omega
    case rel => exact ⟨k + 1, m1, s1, c1, s6, n2 + 1, c6, _, rfl, by omega, by first | rfl | (push_cast; rfl), rfl, hc1, by omega, by omega, S6, Q6, by rw [hfs.out]; simpa using E6, T7, G7⟩
   | false =>
    rw [hp] at hfs
    unfold sbA at L4 S4 Q4 E4 T4
    replace hp := Lib.hid hp
    go_upto_region 8 with (first | (refine swLdM swSb rfl rfl rfl (X1.out.range 0 [.int .i64 u.o, .int .i64 u.t, .int .i64 u.l, .int .u32 (u.s : Nat)] rfl) rfl ?_) | (at_builtin; go_must (refine wpList_apEQ slSb rfl _ _ rfl w.heap.size (.slice s1 m1 c1) m1 _ rfl E4.out _ rfl 1 [u] (subV u) L4.out (EL.single rfl) rfl (by omega) hz4.out (fun _ _ => trivial) ?_; intro s5 c5 w5 hc5 hm5 E5 T5 B5 G5; unfold maxLen at hm5; replace E5 := Lib.hid E5; replace T5 := Lib.hid T5; clear B5 G5)))
    have hnl : ∀ {α : Type} {E : Elt α} {t : TypeId} {v : Value} {m : Nat} {l : List α} , True := fun {_ _ _ _ _ _} => trivial
    clear hnl
    have S6 := Lib.hid (S4.out.st T5.out (fun hm => E4.out.ne S4.out (by decide) _ (by simpa using hm) rfl))
    have Q6 := Lib.hid (Q4.out.still T5.out (fun _ _ => trivial) (fun g hg hm => by
     obtain ⟨cs, hcs⟩ := E4.out.row g (by simpa using hm)
     exact Q4.out.ne hcs (by decide) _ hg rfl))
    have T7 := Lib.hid (T4.out.newR T5.out (fun k hk => E4.out.ge' k (by simpa using hk)))
    clear T5 S4 Q4 E4 T4 Y4 L4 X1
    try simp only [Act.put, List.setIfInBounds_toArray, List.set_cons_succ, List.set_cons_zero]
    go_wp2_with fail
    go_roundg (ns - (k + 1))
    case measure => omega
    case rel => exact ⟨k + 1, m1 + 1, s5, c5, s2, n2, c2, C2, rfl, by omega, by first | rfl | (push_cast; rfl), rfl, by omega, by omega, by omega, S6, Q6, by rw [hfs.out]; simpa using E5, T7, G2⟩
  ·obtain rfl : k = ns := by omega
   have d1 : decide ((k : Int) < (k : Int)) = false := by simp
   have Hr := hHH.out.st T2.out hT0
   obtain ⟨va1, vb1, hm2, -, -⟩ := Hr.mem i hi
   have z7 := (hm2 7 (by decide)).trans (show _ = some L[i].2 from rfl)
   rw [hsm.out] at z7
   obtain ⟨cr, hcr⟩ := Hr.row
   have y7 : wr.frozen? ⟨gl, o + i * 9 + 7, none⟩ = false := hp_frz hcr _
   have htk : subs.take k = subs := List.take_of_length_le (by rw [hnsub.out]; exact Nat.le_refl _)
   have E3 := E2.out
   rw [htk] at E3
   have hH2 := Hr.setS i hi (.slice s1 m1 c1) (subs.filter fun x => !p x) (E3.up hbase).full rfl (fun kk hkk j hj _ hj2 => by
    have h1 := E3.ge' kk hkk
    have h2 := (hHH.out.sb L[j] (List.getElem_mem hj)).lt' kk hj2
    omega)
   rw [hdm.out _ rfl] at hH2
   have T3 := still_sc wr gl (o + i * 9 + 7) (.slice s1 m1 c1)
   have S3 := Lib.hid (S2.out.st T3 (fun hm => by
    obtain rfl : gs = gl := by simpa using hm
    have := S2.out.symm.trans hcr
    cases this))
   have Q3 := Lib.hid (Q2.out.still T3 (fun _ _ => trivial) (fun g hg hm => by
    obtain rfl : g = gl := by simpa using hm
    exact Q2.out.ne hcr (by decide) _ hg rfl))
   have T4 := Lib.hid ((T2.out.weaken (S' := gs :: gl :: (Value.slice sc nc cc).ownBlock.toList) (fun x hx => by
    rcases List.mem_cons.1 hx with rfl | hx
    ·exact List.mem_cons_self
    ·exact List.mem_cons_of_mem _ (List.mem_cons_of_mem _ hx))).trans (T3.weaken (fun x hx => by
    obtain rfl : x = gl := by simpa using hx
    simp)))
   replace hH2 := Lib.hid hH2
   clear T3 Hr hm2 E3 S2 Q2 E2 T2 hT0 htk
   replace hcr := Lib.hid hcr
   go_wp2_with fail
   go_end0
   exact ⟨rfl, s2, n2, c2, C2, _, by omega, S3.out, hH2.out, Q3.out, T4.out, G2.out⟩
end Go.Proofs.Ytebeifkgjhgmeaa
