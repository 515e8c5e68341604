/- sha's Done. No condition but the sizes'. -/
import Derived.Test.YtjjemkfkpnemoaaShX
namespace Go.Proofs.Ytjjemkfkpnemoaa
open Go.RowKit

theorem wpList_load_midA {P : Program} {ops : Array Oper} {rest : List Oper} {op : Oper} {a : Act} {w : World} {Q : Exit → Act → World → Prop} (hgd : op.guard = none) (ty : TypeId) (x : Operand) (ho : op.op = .load ty x)
    (b o : Nat) (hx : a.eval x = .pointer (some ⟨b, o, none⟩)) (cs : Array Value) (d : TypeDesc) (hc : w.rangeAt b o cs.toList)
    (hu : P.underlying ty = some d) (hd : d.isRow = true) (hi : (P.info? ty).map (·.size) = some cs.size)
    (h : wpList P ops Q rest (a.put op.dst (.agg cs)) w) : wpList P ops Q (op :: rest) a w :=
  wpList_load_mid hgd ty x ho b o hx cs.toList d hc hu hd (by simpa using hi) (by simpa using h)

/-- The array that a slice begins with. -/
theorem run_arrayAt {P : Program} (T : TypeId) (n : Nat) (e : TypeId) (hT : P.underlying T = some (.array n e)) (a : Option Addr) (len cap : Nat) (h : n ≤ len) (w : World) : (Instr.arrayAt T (.slice a len cap)).run P w = .ok (.pointer a) w := by
  unfold Instr.arrayAt
  simp only [Sem.run_bind, run_underlying hT, Result.andThen_ok]
  rw [if_neg (by omega)]
  rfl

/-- What is behind the first d bytes. -/
theorem SB.drop {w : World} {g o n cap : Nat} {l : List Nat} (h : SB w (.slice (some ⟨g, o, none⟩) n cap) n l) (d : Nat) (hd : d ≤ n) (o' c' : Nat) (ho : o' = o + d ∨ n = d) (hc : n - d ≤ c') (hm : c' ≤ maxLen) : SB w (.slice (some ⟨g, o', none⟩) (n - d) c') (n - d) (l.drop d) := by
  rcases Nat.lt_or_ge d n with hlt | hge
  · have := h.piece d (n - d) c' (by omega) (by omega) hc hm
    rw [List.take_of_length_le (by rw [List.length_drop, h.1]; omega)] at this
    rcases ho with rfl | ho
    · exact this
    · omega
  · obtain rfl : n = d := by omega
    have h0 : n - n = 0 := by omega
    rw [h0]
    rw [List.drop_of_length_le (by rw [h.1]; omega)]
    exact ⟨rfl, by simp [ByL], rfl, by decide, .inl ⟨rfl, _, c', rfl, by simp, hm⟩⟩

theorem SB.full {w : World} {sa : Option Addr} {n cap : Nat} {l : List Nat} (h : SB w (.slice sa n cap) n l) : SB w (.slice sa n n) n l := by
  obtain ⟨h1, h2, h3, h4, h5⟩ := h
  refine ⟨h1, h2, h3, h4, ?_⟩
  rcases h5 with ⟨rfl, sa', cp, he, h6, h7⟩ | ⟨b, o, cp, he, h6, h7, h8, h9⟩
  · cases he; exact .inl ⟨rfl, sa, 0, rfl, fun _ => rfl, by decide⟩
  · cases he; exact .inr ⟨b, o, n, rfl, Nat.le_refl _, h4, h8, h9⟩

def dg (H : List Nat) : Nat → List Nat
  | 0 => []
  | i + 1 => dg H i ++ putB 4 (H.getD i 0)
theorem dg_end (H : List Nat) : dg H 5 = digest H := by simp [dg, digest]
theorem dg_len (H : List Nat) : ∀ i, (dg H i).length = 4 * i
  | 0 => rfl
  | i + 1 => by rw [dg, List.length_append, dg_len H i, putB_len]; omega
theorem zero20 : ∀ w, (zeroValue 42).run Try.prog w = .ok (.agg (ivA .u8 (zeros 20))) w := fun w => by kernel_rfl
theorem info20 : (Try.prog.info? 42).map (·.size) = some 20 := by kernel_rfl

set_option maxRecDepth 100000 in
set_option maxHeartbeats 8000000 in
theorem done_any (base g : Nat) (m : List Nat) (vl : Value) (hsz : m.length ≤ 1000000000000) (w : World) (hs : StV w base g m vl) :
    Calls Try.prog 31 #[.pointer (some ⟨g, 0, none⟩)] w fun e w' => e = .returned (.agg (ivA .u8 (sumN m))) ∧ Below w.heap.size w w' := by
  obtain ⟨hb, hby, hst, hlf⟩ := hs
  have hE : Hid (endN m = m.drop (64 * (m.length / 64)) ++ [128] ++ List.replicate (padZ m.length) 0 ++ putB 8 (8 * m.length)) := by
    unfold Hid endN; rw [Nat.mod_eq_of_lt (by omega)]
  have hEl := Lib.hid (endN_len m)
  have hS := Lib.hid (sum_end m)
  have hpz := Lib.hid (padZ_spec m.length)
  have hpl := Lib.hid (padZ_least m.length)
  have hw5 := Lib.hid (hfrom_w5 H0 m h0_w5 (m.length / 64))
  have hLl := Lib.hid hlf.1
  have hLb := Lib.hid hlf.2.1
  generalize hfrom H0 m (m.length / 64) = Hm at *
  generalize m.drop (64 * (m.length / 64)) = L at *
  generalize endN m = E at *
  generalize sumN m = D at *
  generalize m.length = ml at *
  generalize padZ ml = pz at *
  clear hby
  have hg := Lib.hid (hp_lt hst)
  obtain ⟨sa, cap, rfl, hc, hm⟩ := hlf.len
  have SL := Lib.hid hlf.sb
  unfold maxLen at hm
  have c5 := hst.left
  replace hst := Lib.hid hst
  clear hlf
  go_enter Try.func31, Try.ntmps31
  go_wp2_with (refine wpList_alloc_of rfl 42 rfl _ zero20 ?_)
  have hst0 := Lib.hid (hp_keep hst.out (.cells (ivA .u8 (zeros 20)) 42))
  have SL0 := Lib.hid (SL.out.alloc (.cells (ivA .u8 (zeros 20)) 42))
  have R0 := Lib.hid (hp_new w (.cells (ivA .u8 (zeros 20)) 42) _ rfl)
  have B0 := Lib.hid ((Below.refl w.heap.size w).alloc (Nat.le_refl _) (.cells (ivA .u8 (zeros 20)) 42))
  have Z0 : Hid ((w.alloc (.cells (ivA .u8 (zeros 20)) 42)).heap.size = w.heap.size + 1) := by simp [Hid]
  generalize w.alloc (.cells (ivA .u8 (zeros 20)) 42) = w0 at *
  have l5 : ∀ x : LaterS [] w0, x.now.cell? ⟨g, 5, none⟩ = some (.slice sa (ml % 64) cap) := fun x => x.cell (hp_cell hst0.out 5) (by simp)
  clear c5 SL
  refine wp_region_gg [] [] [] (by kernel_rfl) ?_
  refine hoist [] [] (a1 := ?_) 0 rfl (by kernel_rfl) (.inl ⟨rfl, rfl⟩) rfl rfl rfl (fun x K hK => ?_) ?_
  rotate_left
  · go_big_quiet_op
    exact hK
  refine hoist [] [] (a1 := ?_) 1 rfl (by kernel_rfl) (.inl ⟨rfl, rfl⟩) rfl rfl rfl (fun x K hK => ?_) ?_
  rotate_left
  · go_big_quiet_op
    exact hK
  refine hoist [] [] (a1 := ?_) 2 rfl (by kernel_rfl) (.inl ⟨rfl, rfl⟩) rfl rfl rfl (fun x K hK => ?_) ?_
  rotate_left
  · go_big_quiet_op
    exact hK
  refine hoist [] [] (a1 := ?_) 3 rfl (by kernel_rfl) (.inl ⟨rfl, rfl⟩) rfl rfl rfl (fun x K hK => ?_) ?_
  rotate_left
  · go_big_quiet_op
    exact hK
  refine hoist [] [] (a1 := ?_) 4 rfl (by kernel_rfl) (.inl ⟨rfl, rfl⟩) rfl rfl rfl (fun x K hK => ?_) ?_
  rotate_left
  · go_big_quiet_op
    exact hK
  refine hoist [] [] (a1 := ?_) 5 rfl (by kernel_rfl) (.inl ⟨rfl, rfl⟩) rfl rfl rfl (fun x K hK => ?_) ?_
  rotate_left
  · go_big_quiet_op
    exact hK
  refine hoist [] [] (a1 := ?_) 6 rfl (by kernel_rfl) (.inl ⟨rfl, rfl⟩) rfl rfl rfl (fun x K hK => ?_) ?_
  rotate_left
  · go_big_quiet_op
    exact hK
  refine hoist [] [] (a1 := ?_) 7 rfl (by kernel_rfl) (.inl ⟨rfl, rfl⟩) rfl rfl rfl (fun x K hK => ?_) ?_
  rotate_left
  · go_big_quiet_op
    exact hK
  refine hoist [] [] (a1 := ?_) 8 rfl (by kernel_rfl) (.inl ⟨rfl, rfl⟩) rfl rfl rfl (fun x K hK => ?_) ?_
  rotate_left
  · go_big_quiet_op
    exact hK
  refine hoist [] [] (a1 := ?_) 9 rfl (by kernel_rfl) (.inl ⟨rfl, rfl⟩) rfl rfl rfl (fun x K hK => ?_) ?_
  rotate_left
  · go_big_quiet_op
    exact hK
  refine hoist [] [] (a1 := ?_) 10 rfl (by kernel_rfl) (.inl ⟨rfl, rfl⟩) rfl rfl rfl (fun x K hK => ?_) ?_
  rotate_left
  · go_big_quiet_op
    exact hK
  refine hoist [] [] (a1 := ?_) 11 rfl (by kernel_rfl) (.inl ⟨rfl, rfl⟩) rfl rfl rfl (fun x K hK => ?_) ?_
  rotate_left
  · go_big_quiet_op
    exact hK
  refine hoist [] [] (a1 := ?_) 12 rfl (by kernel_rfl) (.inl ⟨rfl, rfl⟩) rfl rfl rfl (fun x K hK => ?_) ?_
  rotate_left
  · go_big_quiet_op
    exact hK
  refine hoist [] [] (a1 := ?_) 13 rfl (by kernel_rfl) (.inl ⟨rfl, rfl⟩) rfl rfl rfl (fun x K hK => ?_) ?_
  rotate_left
  · go_big_quiet_op
    exact hK
  refine hoist [] [] (a1 := ?_) 14 rfl (by kernel_rfl) (.inl ⟨rfl, rfl⟩) rfl rfl rfl (fun x K hK => ?_) ?_
  rotate_left
  · go_big_quiet_op
    exact hK
  refine effect 15 rfl (by kernel_rfl) (by kernel_rfl) rfl (fun x15 K hK => ?_)
  go_simp
  refine hK _ _ (Still.of_below ((Below.refl _ _).alloc (Nat.le_refl _) _)) ?_
  clear hK K
  have N1 := Lib.hid (SB.new1 x15.now 5 128 (by decide))
  have S1 := Lib.hid (x15.ok.trans (Still.of_below ((Below.refl _ x15.now).alloc (Nat.le_refl _) (.cells #[.int .u8 128] 5))))
  generalize x15.now.alloc (.cells #[.int .u8 128] 5) = wa at *
  generalize x15.now.heap.size = ba at *
  refine effect 16 rfl (by kernel_rfl) (by kernel_rfl) rfl (fun x16 K hK => ?_)
  skip
  have S2 := Lib.hid (S1.out.trans x16.ok)
  have hz := S2.out.size
  have SLx := (SL0.out.still S2.out (by simp)).full
  refine wp_apf slU8 37 _ _ rfl w.heap.size sa (ml % 64) (bvs L) rfl SLx.2.2 _ rfl 1 (bvs [128]) (OB.sb_app Try.underlying37 (N1.out.still x16.ok (by simp))) (by omega) (by omega) (by rw [Z0.out] at hz; omega) fun v' w' h1 h2 => hK _ _ (Still.of_grown_none h2) ?_
  simp only [Act.put, List.setIfInBounds_toArray, List.set_cons_succ, List.set_cons_zero]
  have S3 := Lib.hid (S2.out.trans (Still.of_grown_none h2))
  replace h1 := Lib.hid (OB.of_app h1 hLl.out rfl hLb.out (by intro z hz; simp at hz; omega))
  clear SLx h2 hz S2 hK K
  obtain ⟨sa1, cp1, rfl, hcp1, hm1⟩ := h1.out.len
  refine hoist [] [] (a1 := ?_) 17 rfl (by kernel_rfl) (.inl ⟨rfl, rfl⟩) rfl rfl rfl (fun x K hK => ?_) ?_
  rotate_left
  · go_big_quiet_op
    exact hK
  refine done (by kernel_rfl) (fun xr => ?_)
  have S4 := Lib.hid (S3.out.trans xr.ok)
  have O4 := Lib.hid (h1.out.still xr.ok (by simp))
  have B4 := Lib.hid (B0.out.trans (S4.out.below (B := w.heap.size) (by rw [Z0.out]; omega) (by simp)))
  have R4 := Lib.hid (hp_st S4.out R0.out (by simp))
  have hstw := Lib.hid (show w.heap[g]? = _ from hst.out)
  clear h1 S4 S3 S1 N1 SL0 hst0 R0 B0 Z0 l5 hm1
  generalize xr.now = w4 at *
  clear xr
  -- the zeros
  go_wp2_with fail
  go_loopg [3] pz (fun m e wx => ∃ k sk ck, m = pz - k ∧ k ≤ pz ∧ e = .slice sk (ml % 64 + 1 + k) ck ∧ ml % 64 + 1 + k ≤ ck ∧ Hid (Below w.heap.size w wx) ∧ Hid (wx.heap[w.heap.size]? = some (.cells (ivA .u8 (zeros 20)) 42 (0, 0))) ∧ Hid (OB wx w.heap.size 5 e (ml % 64 + 1 + k) (L ++ [128] ++ List.replicate k 0)))
  case atStart => exact ⟨0, _, _, by omega, by omega, rfl, by simpa using hcp1, B4, R4, by simpa using O4⟩
  case round =>
    clear B4 O4 R4
    obtain ⟨k, sk, ck, rfl, hk, rfl, hck, B5, R5, O5⟩ := hrel
    by_cases hkp : k < pz
    · have hne := hpl.out k hkp
      have hd : (((ml : Int) % 64 + 1 + (k : Int)) % 64 != 56) = true := by simp; omega
      have hpz2 := hpz.out.2
      have hsn : Hid (L ++ [128] ++ List.replicate k 0 ++ [0] = L ++ [128] ++ List.replicate (k + 1) 0) := by rw [Hid, List.append_assoc, ← List.replicate_succ']
      have hszw := B5.out.size
      have R6 := Lib.hid (hp_keep R5.out (.cells #[.int .u8 0] 5))
      go_wp2_with (at_builtin; go_must (refine wpList_aps slU8 rfl 37 _ _ rfl w.heap.size _ (ml % 64 + 1 + k) (bvs (L ++ [128] ++ List.replicate k 0)) rfl (O5.out.alloc _).2.2 _ rfl 1 (bvs [0]) (OB.sb_app Try.underlying37 (SB.new1 wr _ 0 (by decide))) (by omega) (by simp; omega) ?_; intro v' w' h1 h2 h3; clear h3; have L2 := Lib.hid ((B5.out.alloc B5.out.size (.cells #[.int .u8 0] 5)).trans (Ows.grown (by simp; omega) (Nat.le_refl _) (O5.out.alloc _).2.2 h2)); replace R6 := Lib.hid (hp_st (Still.of_row h2) R6.out ((O5.out.alloc _).2.2.notin R6.out (by decide))); replace h1 := Lib.hid (OB.of_app h1 O5.out.1 rfl O5.out.2.1 (by intro z hz; simp at hz; omega)); clear h2; obtain ⟨sn, cn, rfl, hcn, hmn⟩ := h1.out.len))
      go_roundg (pz - (k + 1))
      case measure => omega
      case rel => exact ⟨k + 1, _, _, rfl, by omega, rfl, by omega, L2, R6, by rw [← hsn.out]; exact h1⟩
    · obtain rfl : k = pz := by omega
      clear hk hkp
      have hd : (((ml : Int) % 64 + 1 + (k : Int)) % 64 != 56) = false := by have := hpz.out.1; simp; omega
      have hst5 : Hid (St wr g Hm (.slice sa (ml % 64) cap) ml) := hp_bel B5.out hst.out hg.out
      have c6 := hst5.out.size
      have hEn : Hid (E.length = ml % 64 + 1 + k + 8) := by
        unfold Hid; rw [hE.out]; simp [hLl.out, putB_len]; omega
      have hpz2 := hpz.out.2
      go_wp2_with fail
      have e8 : (8 * (ml : Int)) = ((8 * ml : Nat) : Int) := by push_cast; rfl
      rw [e8]
      refine (put_ok _ (ml % 64 + 1 + k) (L ++ [128] ++ List.replicate k 0) 8 (8 * ml) 8 (by omega) (by omega) rfl (by omega) (by omega) _ O5.out.sb).mono ?_
      rintro e w7 ⟨v7, rfl, O7, B7⟩
      rw [← hE.out, ← hEn.out] at O7
      have L7 := Lib.hid (B5.out.trans (B7.mono B5.out.size))
      have R7 := Lib.hid (hp_bel B7 R5.out (hp_lt R5.out))
      have hst7 := Lib.hid (hst5.out.still (Still.of_below (S := []) B7) (by simp))
      replace O7 := Lib.hid O7.sb
      have hE64 := Lib.hid (Nat.div_mul_cancel (Nat.dvd_of_mod_eq_zero hEl.out))
      clear c6 B7 B5 R5 O5 hst5 hd hck hpl
      obtain ⟨s7, c7, rfl, hc7, hm7⟩ := O7.out.len
      unfold maxLen at hm7
      have hEN : Hid (E.length ≤ 200) := by rw [hEn.out, Hid]; omega
      clear hE hLb hLl hEn
      generalize hN : E.length = N at *
      replace hN := Lib.hid hN
      have N8 := Lib.hid (hp_new w7 (.cells (ivA .u32 Hm) 89) _ rfl)
      have O8 := Lib.hid (O7.out.alloc (.cells (ivA .u32 Hm) 89))
      have R8 := Lib.hid (hp_keep R7.out (.cells (ivA .u32 Hm) 89))
      have L8 := Lib.hid (L7.out.alloc L7.out.size (.cells (ivA .u32 Hm) 89))
      have hb8 : w.heap.size ≤ w7.heap.size := L7.out.size
      have hbR : w.heap.size < w7.heap.size := hp_lt R7.out
      dsimp only
      go_wp2_with (first | (refine wpList_load_midA rfl 89 _ rfl g 0 rfl (ivA .u32 Hm) _ (hst7.out.h hw5.out.1) Try.underlying89 rfl (by rw [info5, ivA_size, hw5.out.1]) ?_) | (refine wpList_alloc_of rfl 89 rfl _ zero5 ?_) | (refine wpList_store_new rfl 89 _ _ rfl _ (ivA .u32 Hm) _ rfl rfl (by rw [info5, ivA_size, hw5.out.1]) (by rw [ivA_size, ivA_size, hw5.out.1, zeros_len]) (ivA_one _ _) ?_))
      clear O7 R7 L7 hst7
      generalize w7.alloc (.cells (ivA .u32 Hm) 89) = w8 at *
      generalize w7.heap.size = b8 at *
      try simp only [Act.put, List.setIfInBounds_toArray, List.set_cons_succ, List.set_cons_zero]
      clear hst hstw hsz hpz hpz2 hEl e8 hc hm hcp1 hb hg
      go_loopg [3] (N / 64) (fun m e wx => ∃ j s c, m = N / 64 - j ∧ j ≤ N / 64 ∧ e = .slice s (N - 64 * j) c ∧ N - 64 * j ≤ c ∧ c ≤ 2 ^ 63 - 1 ∧ Hid (SB wx e (N - 64 * j) (E.drop (64 * j))) ∧ Hid (Below w.heap.size w wx) ∧ Hid (wx.heap[w.heap.size]? = some (.cells (ivA .u8 (zeros 20)) 42 (0, 0))) ∧ Hid (wx.heap[b8]? = some (.cells (ivA .u32 (hfrom Hm E j)) 89 (0, 0))))
      case atStart => exact ⟨0, _, _, by omega, by omega, rfl, hc7, hm7, by simpa using O8, L8, R8, N8⟩
      case round =>
        clear O8 L8 R8 N8 hc7 hm7
        obtain ⟨j, s9, c9, rfl, hj, rfl, hc9, hm9, O9, L9, R9, N9⟩ := hrel
        have hNN := hE64.out
        have hN2 := hEN.out
        have hwj := Lib.hid (hfrom_w5 Hm E hw5.out j)
        by_cases hj2 : j < N / 64
        · obtain ⟨g2, o2, cap2, he, hn2, hcm2, hlt2, _⟩ := O9.out.form (by omega)
          cases he
          unfold maxLen at hcm2
          have SP := Lib.hid (O9.out.piece 0 64 c9 (by omega) (by omega) (by omega) hm9)
          rw [List.drop_zero] at SP
          have hnx : Hid (hfrom Hm E (j + 1) = takeH (hfrom Hm E j) ((E.drop (64 * j)).take 64)) := rfl
          have tk := Lib.hid (take_any (hfrom Hm E j) hwj.out)
          have hn5 : Hid ((takeH (hfrom Hm E j) ((E.drop (64 * j)).take 64)).length = 5) := (takeH_w5 _ _).1
          have hlj := Lib.hid hwj.out.1
          have hb9 := hp_lt N9.out
          clear hwj
          generalize hfrom Hm E j = Hj at *
          go_wp2_with fail
          refine wp_region_gg [] [] [4] (by kernel_rfl) ?_
          refine hoist [] [] (a1 := ?_) 0 rfl (by kernel_rfl) (.inl ⟨rfl, rfl⟩) rfl rfl rfl (fun x K hK => ?_) ?_
          rotate_left
          · refine quiet_load_row 89 _ rfl b8 rfl 89 (ivA .u32 Hj) (0, 0) _ Try.underlying89 rfl (by rw [info5, ivA_size, hlj.out]) (fun w' hw => by subst hw; exact x.heap N9.out (by simp)) (by simp only [Act.put, List.setIfInBounds_toArray, List.set_cons_succ, List.set_cons_zero]; rfl) ?_
            exact hK
          refine hoist [] [] (a1 := ?_) 1 rfl (by kernel_rfl) (.inl ⟨rfl, rfl⟩) rfl rfl rfl (fun x K hK => ?_) ?_
          rotate_left
          · go_big_quiet_op
            exact hK
          refine hoist [] [] (a1 := ?_) 2 rfl (by kernel_rfl) (.inl ⟨rfl, rfl⟩) rfl rfl rfl (fun x K hK => ?_) ?_
          rotate_left
          · go_big_quiet_op
            exact hK
          refine effect 3 rfl (by kernel_rfl) (by kernel_rfl) rfl (fun x3 K hK => ?_)
          go_simp
          refine (tk.out _ 64 _ (Nat.le_refl _) _ (SP.out.still x3.ok (by simp))).mono ?_
          rintro e w10 ⟨rfl, hb10⟩
          refine hK _ _ (Still.of_below hb10) ?_
          clear hK K
          have S10 := Lib.hid (x3.ok.trans (Still.of_below hb10))
          refine tail 4 rfl (by kernel_rfl) rfl (fun xr => ?_)
          simp only [List.drop_succ_cons, List.drop_zero]
          have SA := Lib.hid (S10.out.trans xr.ok)
          have NA := Lib.hid (hp_st SA.out N9.out (by simp))
          have RA := Lib.hid (hp_st SA.out R9.out (by simp))
          have OA := Lib.hid (O9.out.still SA.out (by simp))
          have LA := Lib.hid (L9.out.trans (SA.out.below L9.out.size (by simp)))
          clear SA S10 N9 R9 O9 L9 tk SP
          generalize xr.now = wA at *
          generalize takeH Hj ((E.drop (64 * j)).take 64) = TH at *
          have NB := Lib.hid (hp_row NA.out (ivA .u32 TH))
          have RB := Lib.hid ((hp_rowo (g := b8) (ivA .u32 TH) (show w.heap.size ≠ b8 by omega)).trans RA.out)
          have LB := Lib.hid (Below.setRow LA.out (by omega) (ivA .u32 TH))
          have OB' : Hid (SB (wA.setRow b8 (ivA .u32 TH)) (.slice (some ⟨g2, o2, none⟩) (N - 64 * j) c9) (N - 64 * j) (E.drop (64 * j))) := OA.out.apart NA.out (fun i x hx => by
            unfold ivA at hx; simp at hx) (Still.mk rfl rfl rfl (by simp) (fun k hk hs => hp_rowo _ (by simpa using hs)))
          go_wp2_with (refine wpList_store_row rfl 89 _ _ rfl _ (ivA .u32 TH) rfl rfl _ _ NA.out (by rw [info5, ivA_size, hn5.out]) (by rw [ivA_size, ivA_size, hlj.out, hn5.out]) (ivA_one _ _) ?_; generalize wA.setRow b8 (ivA .u32 TH) = wB at *)
          all_goals go_roundg (N / 64 - (j + 1))
          case measure => omega
          case measure => omega
          case rel => exact ⟨j + 1, _, _, rfl, by omega, by rw [show N - 64 * (j + 1) = N - 64 * j - 64 by omega], by omega, by omega, by
            have := OB'.out.drop 64 (by omega) o2 0 (by omega) (by omega) (by decide)
            rw [List.drop_drop] at this
            rw [show N - 64 * (j + 1) = N - 64 * j - 64 by omega]
            exact this, LB, RB, by rw [hnx.out]; exact NB⟩
          case rel => exact ⟨j + 1, _, _, rfl, by omega, by rw [show N - 64 * (j + 1) = N - 64 * j - 64 by omega], by omega, by omega, by
            have := OB'.out.drop 64 (by omega) (o2 + 64) (c9 - 64) (.inl rfl) (by omega) (by unfold maxLen; omega)
            rw [List.drop_drop] at this
            rw [show N - 64 * (j + 1) = N - 64 * j - 64 by omega]
            exact this, LB, RB, by rw [hnx.out]; exact NB⟩
        · obtain rfl : j = N / 64 := by omega
          have hDd : Hid (D = dg (hfrom Hm E (N / 64)) 5) := by rw [Hid, dg_end]; exact hS.out
          have hlj := Lib.hid hwj.out.1
          have hHb := Lib.hid hwj.out.2
          clear hwj hS hw5
          generalize hfrom Hm E (N / 64) = HF at *
          have O0 := Lib.hid (OB.nil wr w.heap.size 5).sb
          have hz9 : N - 64 * (N / 64) = 0 := by omega
          rw [hz9] at O9 hc9
          go_wp2_with (refine wpList_load_row rfl 89 _ rfl _ rfl _ _ _ _ N9.out Try.underlying89 rfl (by rw [info5, ivA_size, hlj.out]) ?_)
          clear N9 O9 hc9 hm9 hz9 hN hE64 hEN hNN hN2 hj hj2
          go_loopg [5, 58] 5 (fun m o x wx => ∃ i s c, m = 5 - i ∧ i ≤ 5 ∧ x = .int .i64 (i : Nat) ∧ o = .slice s (4 * i) c ∧ Hid (SB wx o (4 * i) (dg HF i)) ∧ Hid (Below w.heap.size w wx) ∧ Hid (wx.heap[w.heap.size]? = some (.cells (ivA .u8 (zeros 20)) 42 (0, 0))))
          case atStart => exact ⟨0, none, 0, by omega, by omega, rfl, rfl, O0, L9, R9⟩
          case round =>
            clear O0 L9 R9
            obtain ⟨i, so, co, rfl, hi, rfl, rfl, O1, L1, R1⟩ := hrel
            by_cases hi5 : i < 5
            · have hidx : ∀ wy, (Instr.index 89 (.agg (ivA .u32 HF)) (.int .i64 (i : Nat))).run Try.prog wy = .ok (.int .u32 (HF.getD i 0 : Nat)) wy := fun wy => run_index_iv _ 66 5 .u32 HF Try.underlying89 Try.underlying66 (by kernel_rfl) hlj.out i hi5 wy
              have hx := hHb.out i
              have hnx : Hid (dg HF i ++ putB 4 (HF.getD i 0) = dg HF (i + 1)) := rfl
              generalize HF.getD i 0 = x at *
              go_wp2_with fail
              refine (put_ok _ (4 * i) (dg HF i) 4 x 4 (by omega) (by omega) rfl (by omega) (by omega) _ O1.out).mono ?_
              rintro e w7 ⟨v7, rfl, O7, B7⟩
              rw [hnx.out] at O7
              have L7 := Lib.hid (L1.out.trans (B7.mono L1.out.size))
              have R7 := Lib.hid (hp_bel B7 R1.out (hp_lt R1.out))
              replace O7 := Lib.hid O7.sb
              obtain ⟨s7, c7, rfl, hc7, hm7⟩ := O7.out.len
              clear B7 L1 R1 O1
              dsimp only
              go_wp2_with fail
              go_roundg (5 - (i + 1))
              case measure => omega
              case rel => exact ⟨i + 1, _, _, rfl, by omega, by go_num, rfl, O7, L7, R7⟩
            · obtain rfl : i = 5 := by omega
              rw [← hDd.out] at O1
              obtain ⟨g2, o2, cap2, he, hn2, hcm2, hlt2, hcell⟩ := O1.out.form (by omega)
              cases he
              have hDl := Lib.hid O1.out.1
              have hr : Hid (wr.rangeAt g2 o2 (ivA .u8 D).toList) := by
                intro j v hj
                have hlt : j < 20 := by
                  have := (List.getElem?_eq_some_iff.1 hj).1
                  simpa [ivA, hDl.out] using this
                rw [Array.getElem?_toList, ivA_get .u8 D j (by rw [hDl.out]; exact hlt)] at hj
                cases hj
                exact hcell j hlt
              clear hcell
              have hat := fun wy => run_arrayAt (P := Try.prog) 42 20 5 Try.underlying42 (some ⟨g2, o2, none⟩) (4 * 5) co (by omega) wy
              go_wp2_with (first | (refine wpList_load_midA rfl 42 _ rfl g2 o2 rfl (ivA .u8 D) _ hr.out Try.underlying42 rfl (by rw [info20, ivA_size, hDl.out]) ?_) | (refine wpList_store_row rfl 42 _ _ rfl _ (ivA .u8 D) rfl rfl _ _ R1.out (by rw [info20, ivA_size, hDl.out]) (by rw [ivA_size, ivA_size, hDl.out, zeros_len]) (ivA_one _ _) ?_))
              exact bodyPost_ret (results_cell_row (p := 2) rfl _ _ w.heap.size _ _ _ _ rfl (hp_row R1.out _) Try.underlying42 rfl (by rw [info20, ivA_size, hDl.out])) rfl ⟨rfl, Below.setRow L1.out (by omega) _⟩

set_option maxRecDepth 100000 in
set_option maxHeartbeats 8000000 in
theorem done_nil (w : World) : Calls Try.prog 31 #[.pointer none] w fun e w' => e = .returned (.agg (ivA .u8 (sumN []))) ∧ Below w.heap.size w w' := by
  go_enter Try.func31, Try.ntmps31
  have dn := fun base g vl => Lib.hid (done_any base g [] vl (by simp))
  have hDl : Hid ((sumN []).length = 20) := by rw [Hid, sum_empty]; rfl
  generalize sumN [] = D at *
  go_wp2_with (refine wpList_alloc_of rfl 42 rfl _ zero20 ?_)
  have R0 := Lib.hid (hp_new w (.cells (ivA .u8 (zeros 20)) 42) _ rfl)
  have B0 := Lib.hid ((Below.refl w.heap.size w).alloc (Nat.le_refl _) (.cells (ivA .u8 (zeros 20)) 42))
  generalize w.alloc (.cells (ivA .u8 (zeros 20)) 42) = w0 at *
  refine (shanew_any _).mono ?_
  rintro e w1 ⟨g, rfl, hS, hb⟩
  replace hS := Lib.hid hS
  have R1 := Lib.hid (hp_bel hb R0.out (hp_lt R0.out))
  have B1 := Lib.hid (B0.out.trans (hb.mono B0.out.size))
  clear hb R0 B0
  go_wp2_with fail
  refine ((dn _ g _).out _ hS.out).mono ?_
  rintro e w2 ⟨rfl, hb⟩
  have R2 := Lib.hid (hp_bel hb R1.out (hp_lt R1.out))
  have B2 := Lib.hid (B1.out.trans (hb.mono B1.out.size))
  clear hb R1 B1
  go_wp2_with (refine wpList_store_row rfl 42 _ _ rfl _ (ivA .u8 D) rfl rfl _ _ R2.out (by rw [info20, ivA_size, hDl.out]) (by rw [ivA_size, ivA_size, hDl.out, zeros_len]) (ivA_one _ _) ?_)
  exact bodyPost_ret (results_cell_row (p := 2) rfl _ _ w.heap.size _ _ _ _ rfl (hp_row R2.out _) Try.underlying42 rfl (by rw [info20, ivA_size, hDl.out])) rfl ⟨rfl, Below.setRow B2.out (by omega) _⟩
end Go.Proofs.Ytjjemkfkpnemoaa
