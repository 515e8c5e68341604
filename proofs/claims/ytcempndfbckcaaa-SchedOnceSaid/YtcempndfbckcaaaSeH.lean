/- The table of tasks: Due. No condition but the sizes'. -/
import Derived.Test.YtcempndfbckcaaaSeG
namespace Go.Proofs.Ytcempndfbckcaaa
open Go.RowKit

/-- Texts. -/
def StE : Elt ByteArray where
  size := 1
  R := fun _ _ a c => c = [.string a]
  Ok := fun _ _ => True
  pos := by decide
  len := fun e => by rw [e]; rfl
  one := fun e u hu => by rw [e] at hu; simp at hu; rw [hu]; rfl
  bw := fun e _ => e
  up := fun e _ => e
  still := fun e _ _ => e
  old := fun e _ _ => e
theorem slSt : SlTy Try.prog 92 9 1 16 := SlTy.mk' Try.underlying92 (by kernel_rfl) (by decide)
theorem slTa : SlTy Try.prog 138 144 4 40 := SlTy.mk' Try.underlying138 (by kernel_rfl) (by decide)
theorem st_form {T : TypeId} {w : World} {base : Nat} {sv : Option Addr} {n cap : Nat} {L : List ByteArray} (h : EQ StE T w base (.slice sv n cap) n L) (h0 : 0 < n) :
    ∃ g o, sv = some ⟨g, o, none⟩ ∧ n ≤ cap ∧ cap ≤ maxLen ∧ ∀ i (hi : i < L.length), w.cell? ⟨g, o + i, none⟩ = some (.string L[i]) := by
  obtain ⟨g, o, cap', hsl, _, _, h1, h2, hce⟩ := h.form h0
  simp only [Value.slice.injEq] at hsl
  refine ⟨g, o, hsl.1, by omega, by omega, fun i hi => ?_⟩
  obtain ⟨c, hc, hcc⟩ := hce i hi
  have hc' : c = [.string L[i]] := hc
  have z0 := hcc 0 (by decide)
  have e2 : StE.size = 1 := rfl
  rw [hc', e2, Nat.mul_one] at z0
  exact z0
theorem qlT {C : World → Prop} {a a1 : Act} {o : Oper} {K : Act → Prop} {x : Operand} (ho : o.op = .load 144 x) {g : Nat} (hx : a.eval x = .pointer (some ⟨g, 0, none⟩)) {c : Array Value} (hl : c.size = 4) (h : ∀ w, C w → HpB w g (.cells c 144)) (ha : a.put o.dst (.agg c) = a1) (hK : K a1) : o.quiet Try.prog a C K :=
  quiet_load_row 144 x ho g hx 144 c (0, 0) _ Try.underlying144 rfl (by rw [hl]; kernel_rfl) h ha hK
theorem EQ.sepT {α β : Type} {E : Elt α} {F : Elt β} {T U : TypeId} {w : World} {b1 b2 : Nat} {v u : Value} {n m : Nat} {l : List α} {k : List β} (h : EQ E T w b1 v n l) (g : EQ F U w b2 u m k) (ht : T ≠ U) : ∀ j, v.ownBlock = some j → j ∉ u.ownBlock.toList := fun j hj hm => by
  obtain ⟨cs, hr⟩ := g.row j (by simpa using hm)
  exact h.ne hr ht.symm j hj rfl
theorem due_end {p : Tk → Bool} {pd S' : List Tk} (h1 : ∀ x ∈ pd, p x = true) (h2 : ∀ x t, S' = x :: t → p x = false) : (pd ++ S').takeWhile p = pd ∧ (pd ++ S').dropWhile p = S' := by
  have h3 : S'.takeWhile p = [] ∧ S'.dropWhile p = S' := by
    cases S' with
    | nil => exact ⟨rfl, rfl⟩
    | cons x t =>
      have := h2 x t rfl
      simp [this]
  rw [List.takeWhile_append_of_pos h1, List.dropWhile_append_of_pos h1, h3.1, h3.2]
  simp
theorem again_snoc (tick : Int) (pd : List Tk) (x : Tk) : againT tick (pd ++ [x]) = if 0 < x.p then againT tick pd ++ [nextT tick x] else againT tick pd := by
  unfold againT
  rw [List.filter_append, List.map_append]
  by_cases h : 0 < x.p
  · rw [if_pos h]; simp [h]
  · rw [if_neg h]; simp [h]
theorem again_len (tick : Int) (pd : List Tk) : (againT tick pd).length ≤ pd.length := by
  unfold againT
  rw [List.length_map]
  exact List.length_filter_le _ _
theorem again_n (tick : Int) (pd : List Tk) : (againT tick pd).map Tk.n = (pd.filter fun E => decide (0 < E.p)).map Tk.n := by
  unfold againT
  rw [List.map_map]
  rfl
def foldT (l S : List Tk) : List Tk := l.foldl (fun S E => insT E S) S
theorem foldT_perm : ∀ (l S : List Tk), (foldT l S).Perm (l ++ S)
  | [], _ => .refl _
  | E :: l, S => by
    show (foldT l (insT E S)).Perm _
    refine (foldT_perm l (insT E S)).trans ?_
    refine ((insT_perm E S).append_left l).trans ?_
    exact List.perm_middle
theorem foldT_suc (l S : List Tk) (k : Nat) (h : k < l.length) : foldT (l.take (k + 1)) S = insT l[k] (foldT (l.take k) S) := by
  unfold foldT
  rw [List.take_succ_eq_append_getElem h, List.foldl_append]
  rfl
theorem foldT_len (l S : List Tk) : (foldT l S).length = l.length + S.length := by rw [(foldT_perm l S).length_eq, List.length_append]
theorem foldT_notin {l S : List Tk} (h : ((l ++ S).map Tk.n).Nodup) {k : Nat} (hk : k < l.length) : (l[k]).n ∉ (foldT (l.take k) S).map Tk.n := by
  have e : (l ++ S).Perm (l[k] :: (l.take k ++ (l.drop (k + 1) ++ S))) := by
    have e1 : l = l.take k ++ l[k] :: l.drop (k + 1) := by rw [← List.drop_eq_getElem_cons hk, List.take_append_drop]
    have e2 : l ++ S = l.take k ++ l[k] :: (l.drop (k + 1) ++ S) := by
      rw [show l ++ S = (l.take k ++ l[k] :: l.drop (k + 1)) ++ S by rw [← e1], List.append_assoc, List.cons_append]
    rw [e2]
    exact List.perm_middle
  have h2 := (e.map Tk.n).nodup_iff.1 h
  rw [List.map_cons, List.nodup_cons] at h2
  intro hm
  refine h2.1 ?_
  obtain ⟨y, hy, e3⟩ := List.mem_map.1 hm
  rw [← e3]
  refine List.mem_map_of_mem ?_
  rcases List.mem_append.1 ((foldT_perm _ _).mem_iff.1 hy) with h | h
  · exact List.mem_append_left _ h
  · exact List.mem_append_right _ (List.mem_append_right _ h)
theorem again_nd {tick : Int} {pd S9 : List Tk} (h : ((pd ++ S9).map Tk.n).Nodup) : ((againT tick pd ++ S9).map Tk.n).Nodup := by
  rw [List.map_append] at h ⊢
  rw [again_n]
  exact h.sublist (((List.filter_sublist).map _).append (.refl _))
theorem again_ok {tick last : Int} {pd S9 : List Tk} (h : TOk (pd ++ S9) last) (hd : ∀ x ∈ pd, dueT tick x = true) (ht : tick ≤ 562949953421312) : ∀ E ∈ againT tick pd, (1 ≤ E.n ∧ E.n ≤ last) ∧ (0 ≤ E.t ∧ E.t ≤ 1125899906842624 ∧ 0 ≤ E.p ∧ E.p ≤ 35184372088832) := fun E hE => by
  unfold againT at hE
  obtain ⟨y, hy, rfl⟩ := List.mem_map.1 hE
  obtain ⟨hy1, hy2⟩ := List.mem_filter.1 hy
  have hm : y ∈ pd ++ S9 := List.mem_append_left _ hy1
  have h1 := h.tk y hm
  exact ⟨h.rg y hm, next_ok ⟨h1.1, of_decide_eq_true (hd y hy1)⟩ ⟨of_decide_eq_true hy2, h1.2.2.2⟩ ht⟩
set_option maxRecDepth 100000 in
set_option maxHeartbeats 8000000 in
theorem tdue_any (base g0 cv : Nat) (sa : Option Addr) (last : Int) (S H : List Tk) (tick : Int) (ht : tick ≤ 562949953421312) (hn : S.length ≤ 100) (w : World) (hb0 : base ≤ w.heap.size) (h : TabI w base g0 sa cv last S H) :
    Calls Try.prog 51 #[.pointer (some ⟨g0, 0, none⟩), .int .i64 tick] w fun e w' => ∃ sb cc H' so co, e = .returned (.slice so (dueS tick S).2.length co) ∧ EQ StE 9 w' base (.slice so (dueS tick S).2.length co) (dueS tick S).2.length (dueS tick S).2 ∧ TabI w' base g0 sb cc last (dueS tick S).1 H' ∧ Still (g0 :: (Value.slice sa S.length cv).ownBlock.toList) w w' := by
  obtain ⟨W, hW⟩ : ∃ W, g0 :: (Value.slice sa S.length cv).ownBlock.toList = W := ⟨_, rfl⟩
  have hWl := h.lt
  have hok0 := Lib.hid h.ok
  rw [hW] at hWl ⊢
  have hW' : Hid (∀ n, g0 :: (Value.slice sa n cv).ownBlock.toList = W) := Lib.hid (fun n => by rw [← hW]; cases sa <;> rfl)
  have hI := Lib.hid h
  clear h
  replace hb0 := Lib.hid hb0
  replace hW := Lib.hid hW
  replace hWl := Lib.hid hWl
  go_enter Try.func51, Try.ntmps51
  go_upto_region 5 with (fail)
  go_loopg [5, 6] S.length (fun m' out ag wx => ∃ (S' H' pd : List Tk) (so : Option Addr) (co nd : Nat) (sg : Option Addr) (ca na : Nat), S'.length = m' ∧ Hid (S = pd ++ S') ∧ Hid (∀ x ∈ pd, dueT tick x = true) ∧ pd.length = nd ∧ (againT tick pd).length = na ∧ nd + m' ≤ 100 ∧ na ≤ nd ∧ out = .slice so nd co ∧ co ≤ 9223372036854775807 ∧ ag = .slice sg na ca ∧ ca ≤ 9223372036854775807 ∧ na ≤ ca ∧ Hid (TabI wx base g0 sa cv last S' H') ∧ Hid (EQ StE 9 wx base (.slice so nd co) nd (pd.map Tk.s)) ∧ Hid (EQ TN 144 wx base (.slice sg na ca) na (againT tick pd)) ∧ Hid (∀ j, (Value.slice so nd co).ownBlock = some j → w.heap.size ≤ j) ∧ Hid (∀ j, (Value.slice sg na ca).ownBlock = some j → w.heap.size ≤ j) ∧ Hid (Still W w wx))
  case atStart => exact ⟨S, H, [], none, 0, 0, none, 0, 0, rfl, Lib.hid rfl, Lib.hid (by simp), rfl, rfl, by omega, by omega, rfl, by omega, rfl, by omega, by omega, hI, EQ.nil _ _ _ _, EQ.nil _ _ _ _, (fun j hj => by cases hj), (fun j hj => by cases hj), Still.refl _ _⟩
  case round =>
    clear hI hn
    obtain ⟨S', H', pd, so, co, nd, sg, ca, na, rfl, hS, hpd, hnd, hna, hns, hnn, rfl, hco, rfl, hca, hcl, hI, hO, hA, hG1, hG2, hT⟩ := hrel
    cases S' with
    | nil =>
      rw [List.length_nil] at hns
      have z0 := (hp_cell hI.out.hp 0).trans (show _ = some (.slice sa 0 cv) from rfl)
      obtain ⟨e1, e2⟩ := due_end hpd.out (S' := []) (by simp)
      rw [← hS.out] at e1 e2
      have hR : dueS tick S = ((againT tick pd).foldl (fun S E => insT E S) [], pd.map Tk.s) := by unfold dueS; rw [e1, e2]
      have hR9 := Lib.hid hR
      have hS9 := hS
      have hI9 := hI
      obtain ⟨S9, hs9⟩ : ∃ S9 : List Tk, S9 = [] := ⟨_, rfl⟩
      have hl9 : S9.length + nd ≤ 100 := by rw [hs9]; simp; omega
      rw [← hs9] at hI9 hS9 hR9
      clear hs9 hR hS
      replace e1 := Lib.hid e1
      replace e2 := Lib.hid e2
      have hAl := Lib.hid hna
      have hND := Lib.hid (again_nd (tick := tick) (by rw [← hS9.out]; exact hok0.out.nd))
      have hAK := Lib.hid (again_ok (tick := tick) (by rw [← hS9.out]; exact hok0.out) hpd.out ht)
      have hG3 : Hid (∀ j, (Value.slice sg na ca).ownBlock = some j → (Value.slice sa S9.length cv).ownBlock ≠ some j) := Lib.hid (fun j hj e => by
        have h1 := hG2.out j hj
        have h2 := hWl.out j (by rw [← hW'.out S9.length, e]; simp)
        omega)
      generalize hA9 : againT tick pd = A9 at *
      generalize hN9 : pd.map Tk.s = N9 at *
      replace hA9 := Lib.hid hA9
      replace hN9 := Lib.hid hN9
      replace hna := Lib.hid hna
      replace hnd := Lib.hid hnd
      go_upto_region 12 with (fail)
      obtain ⟨wa, hwa⟩ : ∃ wa, wa = wr := ⟨_, rfl⟩
      rw [← hwa] at hI9 hO hA hT ⊢
      clear hwa z0
      try clear z1
      clear hI
      go_loopg [53] na (fun m' i wx => ∃ (k : Nat) (sb : Option Addr) (cb : Nat) (H9 : List Tk), m' = na - k ∧ k ≤ na ∧ i = .int .i64 (k : Nat) ∧ Hid (TabI wx base g0 sb cb last (foldT (A9.take k) S9) H9) ∧ Hid (EQ StE 9 wx base (.slice so nd co) nd N9) ∧ Hid (EQ TN 144 wx base (.slice sg na ca) na A9) ∧ Hid (∀ m j, (Value.slice sb m cb).ownBlock = some j → j ∈ W ∨ w.heap.size ≤ j) ∧ Hid (∀ m j, (Value.slice sg na ca).ownBlock = some j → (Value.slice sb m cb).ownBlock ≠ some j) ∧ Hid (Still W w wx))
      case atStart => exact ⟨0, sa, cv, _, by omega, by omega, rfl, hI9, hO, hA, Lib.hid (fun m j hj => .inl (by rw [← hW'.out m, hj]; simp)), Lib.hid (fun m j hj e => hG3.out j hj (by cases sa <;> exact e)), hT⟩
      case round =>
        clear hI9 hO hA hT
        obtain ⟨k, sb, cb, H9, rfl, hk, rfl, I, O, A, GB, GS, T⟩ := hrel
        by_cases hkn : k < na
        · have e1 : decide ((k : Int) < (na : Int)) = true := by simp; omega
          have hkA : k < A9.length := by rw [hAl.out]; exact hkn
          obtain ⟨g9, o9, rfl, -, hcc⟩ := tn_form A.out (by omega)
          obtain ⟨p0, p1, p2, p3, -⟩ := hcc k hkA
          have hEK := hAK.out _ (List.getElem_mem hkA)
          have hnn := Lib.hid (foldT_notin hND.out hkA)
          have hsu := Lib.hid (foldT_suc A9 S9 k hkA)
          have hfl : (foldT (A9.take k) S9).length < 1000 := by rw [foldT_len, List.length_take]; omega
          clear hcc
          generalize A9[k] = E at *
          have BX : BW wr (wr.alloc (.cells #[.int .i64 E.n, .int .i64 E.t, .int .i64 E.p, .string E.s] 144)) := (BW.refl _).alloc
          have XX := Lib.hid (HpB.new wr (.cells #[.int .i64 E.n, .int .i64 E.t, .int .i64 E.p, .string E.s] 144))
          have I2 := Lib.hid (I.out.bw BX)
          have O2 := Lib.hid (O.out.bw BX)
          have A2 := Lib.hid (A.out.bw BX)
          have T2 := Lib.hid (T.out.trans (BX.still W))
          clear I O A T
          replace BX := Lib.hid BX
          replace hEK := Lib.hid hEK
          replace hfl := Lib.hid hfl
          go_upto_region 14 with (fail)
          generalize wr.alloc (.cells #[.int .i64 E.n, .int .i64 E.t, .int .i64 E.p, .string E.s] 144) = w2 at *
          generalize wr.heap.size = gx at *
          clear p0 p1 p2 p3
          refine wp_region_gg [] [] [6] (by kernel_rfl) ?_
          refine hoist [] [] (a1 := ?_) 0 rfl (by kernel_rfl) (.inl ⟨rfl, rfl⟩) rfl rfl rfl (fun x K hK => ?_) ?_
          rotate_left
          · go_big_quiet_op
            exact hK
          refine hoist [] [] (a1 := ?_) 1 rfl (by kernel_rfl) (.inl ⟨rfl, rfl⟩) rfl rfl rfl (fun x K hK => ?_) ?_
          rotate_left
          · go_big_quiet_op
            exact hK
          refine hoist [] [] (a1 := ?_) 2 rfl (by kernel_rfl) (.inl ⟨rfl, rfl⟩) rfl rfl rfl (fun x K hK => ?_) ?_
          rotate_left
          · go_big_quiet_op
            exact hK
          refine hoist [] [] (a1 := ?_) 3 rfl (by kernel_rfl) (.inl ⟨rfl, rfl⟩) rfl rfl rfl (fun x K hK => ?_) ?_
          rotate_left
          · go_big_quiet_op
            exact hK
          refine hoist [] [] (a1 := ?_) 4 rfl (by kernel_rfl) (.inl ⟨rfl, rfl⟩) rfl rfl rfl (fun x K hK => ?_) ?_
          rotate_left
          · refine qlT rfl (by rfl) rfl (fun w' hw => by subst hw; exact XX.out.bw x.bw) (by simp only [Act.put, List.setIfInBounds_toArray, List.set_cons_succ, List.set_cons_zero]; rfl) ?_
            exact hK
          refine hoist [] [] (a1 := ?_) 5 rfl (by kernel_rfl) (.inl ⟨rfl, rfl⟩) rfl rfl rfl (fun x K hK => ?_) ?_
          rotate_left
          · go_big_quiet_op
            exact hK
          refine tail 6 rfl (by kernel_rfl) rfl (fun xr => ?_)
          simp only [List.drop_succ_cons, List.drop_zero]
          have I3 := Lib.hid (I2.out.bw xr.bw)
          have O3 := Lib.hid (O2.out.bw xr.bw)
          have A3 := Lib.hid (A2.out.bw xr.bw)
          have T3 := Lib.hid (T2.out.trans (xr.bw.still W))
          have hz3 := Lib.hid (Nat.le_trans hb0.out T3.out.size)
          clear I2 O2 A2 T2 XX
          generalize xr.now = w3 at *
          have hP := Lib.hid (tpush_st base g0 cb sb last (foldT (A9.take k) S9) H9 E hfl.out w3 hz3.out I3.out hEK.out.1 hEK.out.2 hnn.out)
          unfold tkC at hP
          go_wp2_with fail
          refine Calls.mono hP.out ?_
          rintro e w4 ⟨rfl, sb2, cc2, H10, hcc2, I4, T4, G4⟩
          rw [← hsu.out] at I4
          have hin : ∀ j, j ∈ g0 :: (Value.slice sb (foldT (A9.take k) S9).length cb).ownBlock.toList → j ∈ W ∨ w.heap.size ≤ j := fun j hj => by
            rcases List.mem_cons.1 hj with rfl | hj
            · exact .inl (by rw [← hW'.out 0]; exact List.mem_cons_self)
            · exact GB.out _ j (by simpa using hj)
          have O4 := Lib.hid (O3.out.still T4 (fun _ _ => trivial) (fun j hj hm => by
            rcases List.mem_cons.1 hm with rfl | hm
            · exact O3.out.ne I3.out.hp (by decide) j hj rfl
            · obtain ⟨cs, hh⟩ := I3.out.eq.row j (by simpa using hm)
              exact O3.out.ne hh (by decide) j hj rfl))
          have A4 := Lib.hid (A3.out.still T4 (fun _ _ => trivial) (fun j hj hm => by
            rcases List.mem_cons.1 hm with rfl | hm
            · exact A3.out.ne I3.out.hp (by decide) j hj rfl
            · exact GS.out _ j hj (by simpa using hm)))
          have T5 := Lib.hid (T3.out.transT T4 hin)
          have GB2 : Hid (∀ m j, (Value.slice sb2 m cc2).ownBlock = some j → j ∈ W ∨ w.heap.size ≤ j) := Lib.hid (fun m j hj => by
            rcases G4 j (by cases sb2 <;> exact hj) with h | h
            · exact GB.out _ j h
            · exact .inr (Nat.le_trans T3.out.size h))
          have GS2 : Hid (∀ m j, (Value.slice (some ⟨g9, o9, none⟩) na ca).ownBlock = some j → (Value.slice sb2 m cc2).ownBlock ≠ some j) := Lib.hid (fun m j hj e => by
            rcases G4 j (by cases sb2 <;> exact e) with h | h
            · exact GS.out _ j hj h
            · have := A3.out.lt' j hj
              omega)
          replace I4 := Lib.hid I4
          clear hin T4 G4 hP T3 O3 A3 I3 GB GS
          try dsimp only
          go_wp2_with fail
          go_roundg (na - (k + 1))
          case measure => omega
          case rel => exact ⟨k + 1, sb2, cc2, H10, rfl, by omega, by push_cast; rfl, I4, O4, A4, GB2, GS2, T5⟩
        · obtain rfl : k = na := by omega
          have e1 : decide ((k : Int) < (k : Int)) = false := by simp
          rw [List.take_of_length_le (by rw [hAl.out]; exact Nat.le_refl _)] at I
          have hR10 := hR9.out
          replace hR10 := Lib.hid hR10
          go_wp2_with fail
          go_ret
          have hR11 : dueS tick S = (foldT A9 S9, N9) := hR10.out
          have hnl : N9.length = nd := O.out.1
          refine ⟨sb, cb, H9, so, co, by rw [hR11]; show _ = Ending.returned (.slice so N9.length co); rw [hnl]; rfl, ?_, by rw [hR11]; exact I.out, T.out⟩
          rw [hR11]
          show EQ StE _ wr base (.slice so N9.length co) N9.length N9
          rw [hnl]
          exact O.out
    | cons x S' =>
      rw [List.length_cons] at hns
      have z0 := (hp_cell hI.out.hp 0).trans (show _ = some (.slice sa (S'.length + 1) cv) from rfl)
      have hHl : 0 < H'.length := by rw [← hI.out.pm.length_eq]; simp
      have hq := hI.out.eq
      rw [List.length_cons] at hq
      obtain ⟨_, _, he, hq1, hq2⟩ := hq.len
      cases he
      unfold maxLen at hq2
      obtain ⟨g, o, hsa, -, hcc⟩ := tn_form hq (by omega)
      rw [hsa] at z0
      obtain ⟨-, z1, -⟩ := hcc 0 hHl
      rw [hI.out.first hHl, Nat.zero_mul, Nat.add_zero] at z1
      clear hcc hq
      replace hsa := Lib.hid hsa
      obtain ⟨m, hmm⟩ : ∃ m, S'.length + 1 = m := ⟨_, rfl⟩
      have hm0 : 0 < m := by omega
      rw [hmm] at z0 hq1
      have d0 : decide ((0 : Int) < (m : Nat)) = true := decide_eq_true (by omega)
      cases hdx : dueT tick x with
      | false =>
        have d1 : decide (x.t ≤ tick) = false := hdx
        obtain ⟨e1, e2⟩ := due_end hpd.out (S' := x :: S') (fun y t e => by cases e; exact hdx)
        rw [← hS.out] at e1 e2
        have hR : dueS tick S = ((againT tick pd).foldl (fun S E => insT E S) (x :: S'), pd.map Tk.s) := by unfold dueS; rw [e1, e2]
        have hR9 := Lib.hid hR
        have hS9 := hS
        have hI9 := hI
        generalize x.t = xt at *
        obtain ⟨S9, hs9⟩ : ∃ S9 : List Tk, S9 = x :: S' := ⟨_, rfl⟩
        have hl9 : S9.length + nd ≤ 100 := by rw [hs9, List.length_cons]; omega
        rw [← hs9] at hI9 hS9 hR9
        clear hs9 hR hS
        replace e1 := Lib.hid e1
        replace e2 := Lib.hid e2
        replace hdx := Lib.hid hdx
        have hAl := Lib.hid hna
        have hND := Lib.hid (again_nd (tick := tick) (by rw [← hS9.out]; exact hok0.out.nd))
        have hAK := Lib.hid (again_ok (tick := tick) (by rw [← hS9.out]; exact hok0.out) hpd.out ht)
        have hG3 : Hid (∀ j, (Value.slice sg na ca).ownBlock = some j → (Value.slice sa S9.length cv).ownBlock ≠ some j) := Lib.hid (fun j hj e => by
          have h1 := hG2.out j hj
          have h2 := hWl.out j (by rw [← hW'.out S9.length, e]; simp)
          omega)
        generalize hA9 : againT tick pd = A9 at *
        generalize hN9 : pd.map Tk.s = N9 at *
        replace hA9 := Lib.hid hA9
        replace hN9 := Lib.hid hN9
        replace hna := Lib.hid hna
        replace hnd := Lib.hid hnd
        go_upto_region 12 with (fail)
        obtain ⟨wa, hwa⟩ : ∃ wa, wa = wr := ⟨_, rfl⟩
        rw [← hwa] at hI9 hO hA hT ⊢
        clear hwa z0
        try clear z1
        clear hI
        go_loopg [53] na (fun m' i wx => ∃ (k : Nat) (sb : Option Addr) (cb : Nat) (H9 : List Tk), m' = na - k ∧ k ≤ na ∧ i = .int .i64 (k : Nat) ∧ Hid (TabI wx base g0 sb cb last (foldT (A9.take k) S9) H9) ∧ Hid (EQ StE 9 wx base (.slice so nd co) nd N9) ∧ Hid (EQ TN 144 wx base (.slice sg na ca) na A9) ∧ Hid (∀ m j, (Value.slice sb m cb).ownBlock = some j → j ∈ W ∨ w.heap.size ≤ j) ∧ Hid (∀ m j, (Value.slice sg na ca).ownBlock = some j → (Value.slice sb m cb).ownBlock ≠ some j) ∧ Hid (Still W w wx))
        case atStart => exact ⟨0, sa, cv, _, by omega, by omega, rfl, hI9, hO, hA, Lib.hid (fun m j hj => .inl (by rw [← hW'.out m, hj]; simp)), Lib.hid (fun m j hj e => hG3.out j hj (by cases sa <;> exact e)), hT⟩
        case round =>
          clear hI9 hO hA hT
          obtain ⟨k, sb, cb, H9, rfl, hk, rfl, I, O, A, GB, GS, T⟩ := hrel
          by_cases hkn : k < na
          · have e1 : decide ((k : Int) < (na : Int)) = true := by simp; omega
            have hkA : k < A9.length := by rw [hAl.out]; exact hkn
            obtain ⟨g9, o9, rfl, -, hcc⟩ := tn_form A.out (by omega)
            obtain ⟨p0, p1, p2, p3, -⟩ := hcc k hkA
            have hEK := hAK.out _ (List.getElem_mem hkA)
            have hnn := Lib.hid (foldT_notin hND.out hkA)
            have hsu := Lib.hid (foldT_suc A9 S9 k hkA)
            have hfl : (foldT (A9.take k) S9).length < 1000 := by rw [foldT_len, List.length_take]; omega
            clear hcc
            generalize A9[k] = E at *
            have BX : BW wr (wr.alloc (.cells #[.int .i64 E.n, .int .i64 E.t, .int .i64 E.p, .string E.s] 144)) := (BW.refl _).alloc
            have XX := Lib.hid (HpB.new wr (.cells #[.int .i64 E.n, .int .i64 E.t, .int .i64 E.p, .string E.s] 144))
            have I2 := Lib.hid (I.out.bw BX)
            have O2 := Lib.hid (O.out.bw BX)
            have A2 := Lib.hid (A.out.bw BX)
            have T2 := Lib.hid (T.out.trans (BX.still W))
            clear I O A T
            replace BX := Lib.hid BX
            replace hEK := Lib.hid hEK
            replace hfl := Lib.hid hfl
            go_upto_region 14 with (fail)
            generalize wr.alloc (.cells #[.int .i64 E.n, .int .i64 E.t, .int .i64 E.p, .string E.s] 144) = w2 at *
            generalize wr.heap.size = gx at *
            clear p0 p1 p2 p3
            refine wp_region_gg [] [] [6] (by kernel_rfl) ?_
            refine hoist [] [] (a1 := ?_) 0 rfl (by kernel_rfl) (.inl ⟨rfl, rfl⟩) rfl rfl rfl (fun x K hK => ?_) ?_
            rotate_left
            · go_big_quiet_op
              exact hK
            refine hoist [] [] (a1 := ?_) 1 rfl (by kernel_rfl) (.inl ⟨rfl, rfl⟩) rfl rfl rfl (fun x K hK => ?_) ?_
            rotate_left
            · go_big_quiet_op
              exact hK
            refine hoist [] [] (a1 := ?_) 2 rfl (by kernel_rfl) (.inl ⟨rfl, rfl⟩) rfl rfl rfl (fun x K hK => ?_) ?_
            rotate_left
            · go_big_quiet_op
              exact hK
            refine hoist [] [] (a1 := ?_) 3 rfl (by kernel_rfl) (.inl ⟨rfl, rfl⟩) rfl rfl rfl (fun x K hK => ?_) ?_
            rotate_left
            · go_big_quiet_op
              exact hK
            refine hoist [] [] (a1 := ?_) 4 rfl (by kernel_rfl) (.inl ⟨rfl, rfl⟩) rfl rfl rfl (fun x K hK => ?_) ?_
            rotate_left
            · refine qlT rfl (by rfl) rfl (fun w' hw => by subst hw; exact XX.out.bw x.bw) (by simp only [Act.put, List.setIfInBounds_toArray, List.set_cons_succ, List.set_cons_zero]; rfl) ?_
              exact hK
            refine hoist [] [] (a1 := ?_) 5 rfl (by kernel_rfl) (.inl ⟨rfl, rfl⟩) rfl rfl rfl (fun x K hK => ?_) ?_
            rotate_left
            · go_big_quiet_op
              exact hK
            refine tail 6 rfl (by kernel_rfl) rfl (fun xr => ?_)
            simp only [List.drop_succ_cons, List.drop_zero]
            have I3 := Lib.hid (I2.out.bw xr.bw)
            have O3 := Lib.hid (O2.out.bw xr.bw)
            have A3 := Lib.hid (A2.out.bw xr.bw)
            have T3 := Lib.hid (T2.out.trans (xr.bw.still W))
            have hz3 := Lib.hid (Nat.le_trans hb0.out T3.out.size)
            clear I2 O2 A2 T2 XX
            generalize xr.now = w3 at *
            have hP := Lib.hid (tpush_st base g0 cb sb last (foldT (A9.take k) S9) H9 E hfl.out w3 hz3.out I3.out hEK.out.1 hEK.out.2 hnn.out)
            unfold tkC at hP
            go_wp2_with fail
            refine Calls.mono hP.out ?_
            rintro e w4 ⟨rfl, sb2, cc2, H10, hcc2, I4, T4, G4⟩
            rw [← hsu.out] at I4
            have hin : ∀ j, j ∈ g0 :: (Value.slice sb (foldT (A9.take k) S9).length cb).ownBlock.toList → j ∈ W ∨ w.heap.size ≤ j := fun j hj => by
              rcases List.mem_cons.1 hj with rfl | hj
              · exact .inl (by rw [← hW'.out 0]; exact List.mem_cons_self)
              · exact GB.out _ j (by simpa using hj)
            have O4 := Lib.hid (O3.out.still T4 (fun _ _ => trivial) (fun j hj hm => by
              rcases List.mem_cons.1 hm with rfl | hm
              · exact O3.out.ne I3.out.hp (by decide) j hj rfl
              · obtain ⟨cs, hh⟩ := I3.out.eq.row j (by simpa using hm)
                exact O3.out.ne hh (by decide) j hj rfl))
            have A4 := Lib.hid (A3.out.still T4 (fun _ _ => trivial) (fun j hj hm => by
              rcases List.mem_cons.1 hm with rfl | hm
              · exact A3.out.ne I3.out.hp (by decide) j hj rfl
              · exact GS.out _ j hj (by simpa using hm)))
            have T5 := Lib.hid (T3.out.transT T4 hin)
            have GB2 : Hid (∀ m j, (Value.slice sb2 m cc2).ownBlock = some j → j ∈ W ∨ w.heap.size ≤ j) := Lib.hid (fun m j hj => by
              rcases G4 j (by cases sb2 <;> exact hj) with h | h
              · exact GB.out _ j h
              · exact .inr (Nat.le_trans T3.out.size h))
            have GS2 : Hid (∀ m j, (Value.slice (some ⟨g9, o9, none⟩) na ca).ownBlock = some j → (Value.slice sb2 m cc2).ownBlock ≠ some j) := Lib.hid (fun m j hj e => by
              rcases G4 j (by cases sb2 <;> exact e) with h | h
              · exact GS.out _ j hj h
              · have := A3.out.lt' j hj
                omega)
            replace I4 := Lib.hid I4
            clear hin T4 G4 hP T3 O3 A3 I3 GB GS
            try dsimp only
            go_wp2_with fail
            go_roundg (na - (k + 1))
            case measure => omega
            case rel => exact ⟨k + 1, sb2, cc2, H10, rfl, by omega, by push_cast; rfl, I4, O4, A4, GB2, GS2, T5⟩
          · obtain rfl : k = na := by omega
            have e1 : decide ((k : Int) < (k : Int)) = false := by simp
            rw [List.take_of_length_le (by rw [hAl.out]; exact Nat.le_refl _)] at I
            have hR10 := hR9.out
            replace hR10 := Lib.hid hR10
            go_wp2_with fail
            go_ret
            have hR11 : dueS tick S = (foldT A9 S9, N9) := hR10.out
            have hnl : N9.length = nd := O.out.1
            refine ⟨sb, cb, H9, so, co, by rw [hR11]; show _ = Ending.returned (.slice so N9.length co); rw [hnl]; rfl, ?_, by rw [hR11]; exact I.out, T.out⟩
            rw [hR11]
            show EQ StE _ wr base (.slice so N9.length co) N9.length N9
            rw [hnl]
            exact O.out
      | true =>
        have d1 : decide (x.t ≤ tick) = true := hdx
        have hxt := of_decide_eq_true d1
        have hxk := hI.out.ok.tk x List.mem_cons_self
        have c1 := Lib.hid (tpop_st base g0 cv _ last x S' H' (by omega) wr hI.out)
        rw [hW'.out] at c1
        unfold tkC at c1
        have hrx := hI.out.ok.rng x List.mem_cons_self
        have hS2 : Hid (S = (pd ++ [x]) ++ S') := Lib.hid (by rw [hS.out]; simp)
        have hpd2 : Hid (∀ y ∈ pd ++ [x], dueT tick y = true) := Lib.hid (fun y hy => by
          rcases List.mem_append.1 hy with h | h
          · exact hpd.out y h
          · obtain rfl : y = x := by simpa using h
            exact hdx)
        have hag := again_snoc tick pd x
        have hps : (pd ++ [x]).map Tk.s = pd.map Tk.s ++ [x.s] := List.map_append ..
        have hnd2 : (pd ++ [x]).length = nd + 1 := by rw [List.length_append, hnd]; rfl
        replace hdx := Lib.hid hdx
        replace hag := Lib.hid hag
        replace hps := Lib.hid hps
        replace hnd2 := Lib.hid hnd2
        clear hS hpd
        go_wp2_with fail
        refine Calls.mono c1.out ?_
        rintro e w5 ⟨rfl, H5, I5, T5⟩
        have B6 : BW w5 (w5.alloc (.cells #[.int .i64 x.n, .int .i64 x.t, .int .i64 x.p, .string x.s] 144)) := (BW.refl _).alloc
        have X6 := Lib.hid (HpB.new w5 (.cells #[.int .i64 x.n, .int .i64 x.t, .int .i64 x.p, .string x.s] 144))
        have I6 := Lib.hid (I5.bw B6)
        have hf1 : ∀ j, (Value.slice so nd co).ownBlock = some j → j ∉ W := fun j hj hm => by have := hG1.out j hj; have := hWl.out j hm; omega
        have hf2 : ∀ j, (Value.slice sg na ca).ownBlock = some j → j ∉ W := fun j hj hm => by have := hG2.out j hj; have := hWl.out j hm; omega
        have O6 := Lib.hid ((hO.out.still T5 (fun _ _ => trivial) hf1).bw B6)
        have A6 := Lib.hid ((hA.out.still T5 (fun _ _ => trivial) hf2).bw B6)
        have T6 := Lib.hid ((hT.out.trans T5).trans (B6.still W))
        have hx6 : w.heap.size ≤ w5.heap.size := (hT.out.trans T5).size
        have hsg : ∀ j, (Value.slice sg na ca).ownBlock = some j → j < w5.heap.size := fun j hj => Nat.lt_of_lt_of_le (hA.out.lt' j hj) T5.size
        clear c1 I5 T5 hI hO hA hT z0 z1 d0 d1 hHl hq1
        replace B6 := Lib.hid B6
        replace hf1 := Lib.hid hf1
        replace hf2 := Lib.hid hf2
        replace hsg := Lib.hid hsg
        try dsimp only
        go_upto_region 7 with (fail)
        generalize w5.alloc (.cells #[.int .i64 x.n, .int .i64 x.t, .int .i64 x.p, .string x.s] 144) = w6 at *
        generalize w5.heap.size = gx at *
        have p3 := (hp_cell X6.out 3).trans (show _ = some (.string x.s) from rfl)
        have W7 : BW w6 (w6.alloc (.cells #[.string x.s] 9)) := (BW.refl _).alloc
        have L7 := Lib.hid (Sls.new1 (E := StE) w6 9 [.string x.s] rfl)
        have O7 := Lib.hid (O6.out.bw W7)
        have A7 := Lib.hid (A6.out.bw W7)
        have I7 := Lib.hid (I6.out.bw W7)
        have X7 := Lib.hid (X6.out.bw W7)
        have T7 := Lib.hid (T6.out.trans (W7.still W))
        have hz7 := Nat.le_trans hb0.out T7.out.size
        clear O6 A6 I6 X6 T6
        replace W7 := Lib.hid W7
        go_upto_region 8 with (at_builtin; go_must (refine wpList_apEQ slSt rfl _ _ rfl base (.slice so nd co) nd (pd.map Tk.s) rfl O7.out _ rfl 1 [x.s] [.string x.s] L7.out (EL.single rfl) rfl (by omega) hz7 (fun _ _ => trivial) ?_; intro s8 c8 w8 hc8 hm8 O8 T8 hb8 G8; unfold maxLen at hm8; replace O8 := Lib.hid O8; replace T8 := Lib.hid T8; replace G8 := Lib.hid G8; clear hb8))
        have F8 : Hid (∀ j, (Value.slice s8 (nd + 1) c8).ownBlock = some j → w.heap.size ≤ j) := Lib.hid (fun j hj => by
          rcases G8.out j hj with h | h
          · exact hG1.out j h
          · exact Nat.le_trans T7.out.size h)
        have hw8 : ∀ k ∈ (Value.slice so nd co).ownBlock.toList, w.heap.size ≤ k := fun k hk => hG1.out k (by simpa using hk)
        have I8 := Lib.hid (I7.out.still T8.out (fun hm => by have := hw8 _ hm; have := hWl.out g0 (by rw [← hW'.out 0]; exact List.mem_cons_self); omega) (fun k hk hm => by have := hw8 _ hm; have := hWl.out k (by rw [← hW'.out S'.length, hk]; simp); omega))
        have A8 := Lib.hid (A7.out.still T8.out (fun _ _ => trivial) (A7.out.sepT O7.out (by decide)))
        have X8 := Lib.hid (X7.out.st T8.out (fun hm => O7.out.ne X7.out (by decide) gx (by simpa using hm) rfl))
        have T9 := Lib.hid (T7.out.transT T8.out (fun k hk => .inr (hw8 k hk)))
        have O9 : Hid (EQ StE 9 w8 base (.slice s8 (nd + 1) c8) (nd + 1) ((pd ++ [x]).map Tk.s)) := Lib.hid (by rw [hps.out]; exact O8.out)
        clear O8 O7 A7 I7 X7 T7 T8 G8 L7 hz7 p3 hw8
        replace hx6 := Lib.hid hx6
        have p0 := (hp_cell X8.out 0).trans (show _ = some (.int .i64 x.n) from rfl)
        have p1 := (hp_cell X8.out 1).trans (show _ = some (.int .i64 x.t) from rfl)
        have p2 := (hp_cell X8.out 2).trans (show _ = some (.int .i64 x.p) from rfl)
        have p3 := (hp_cell X8.out 3).trans (show _ = some (.string x.s) from rfl)
        by_cases hxp : 0 < x.p
        · have d2 : decide (0 < x.p) = true := by simpa using hxp
          have ha2 : againT tick (pd ++ [x]) = againT tick pd ++ [nextT tick x] := by rw [hag.out, if_pos hxp]
          have c2 := Lib.hid (tnext1_any x tick ⟨hxk.1, hxt⟩ ⟨hxp, hxk.2.2.2⟩ ht w8)
          unfold tkC at c2
          have hnt := Lib.hid (rfl : (nextT tick x).t = (nextT tick x).t)
          have htk : tkC (nextT tick x) = #[.int .i64 x.n, .int .i64 (nextT tick x).t, .int .i64 x.p, .string x.s] := rfl
          replace ha2 := Lib.hid ha2
          replace htk := Lib.hid htk
          go_wp2_with fail
          refine Calls.mono c2.out ?_
          rintro e w9 ⟨rfl, hb⟩
          have X9 := Lib.hid (X8.out.bw hb)
          have I9 := Lib.hid (I8.out.bw hb)
          have A9 := Lib.hid (A8.out.bw hb)
          have Q9 := Lib.hid (O9.out.bw hb)
          have T10 := Lib.hid (T9.out.trans (hb.still W))
          clear X8 I8 A8 O9 T9 hb c2 p0 p1 p2 p3 d2
          have p1 := (hp_cell X9.out 1).trans (show _ = some (.int .i64 x.t) from rfl)
          have y1 := hp_frz X9.out 1
          have TS := still_sc w9 gx 1 (.int .i64 (nextT tick x).t)
          have hgx : ∀ k ∈ [gx], w.heap.size ≤ k := fun k hk => by obtain rfl : k = gx := (by simpa using hk); exact hx6.out
          have X10 : Hid (HpB (w9.setCell ⟨gx, 1, none⟩ (.int .i64 (nextT tick x).t)) gx (.cells #[.int .i64 x.n, .int .i64 (nextT tick x).t, .int .i64 x.p, .string x.s] 144)) := Lib.hid (hp_set X9.out 1 _)
          have I10 := Lib.hid (I9.out.still TS (fun hm => by have := hgx _ hm; have := hWl.out g0 (by rw [← hW'.out 0]; exact List.mem_cons_self); omega) (fun k hk hm => by have := hgx _ hm; have := hWl.out k (by rw [← hW'.out S'.length, hk]; simp); omega))
          have hax : ∀ j, (Value.slice sg na ca).ownBlock = some j → j ∉ [gx] := fun j hj hm => by obtain rfl : j = gx := (by simpa using hm); have := hsg.out j hj; omega
          have A10 := Lib.hid (A9.out.still TS (fun _ _ => trivial) hax)
          have Q10 := Lib.hid (Q9.out.still TS (fun _ _ => trivial) (fun j hj => by have := Q9.out.ne X9.out (by decide) j hj; simpa using this))
          have T11 := Lib.hid (T10.out.transT TS (fun k hk => .inr (hgx k hk)))
          clear TS hax I9 A9 Q9 T10 hgx
          go_upto_region 10 with (fail)
          generalize w9.setCell ⟨gx, 1, none⟩ (.int .i64 (nextT tick x).t) = w10 at *
          clear p1 y1 X9
          have p0 := (hp_cell X10.out 0).trans (show _ = some (.int .i64 x.n) from rfl)
          have p1 := (hp_cell X10.out 1).trans (show _ = some (.int .i64 (nextT tick x).t) from rfl)
          have p2 := (hp_cell X10.out 2).trans (show _ = some (.int .i64 x.p) from rfl)
          have p3 := (hp_cell X10.out 3).trans (show _ = some (.string x.s) from rfl)
          have W11 : BW w10 (w10.alloc (.cells #[.int .i64 x.n, .int .i64 (nextT tick x).t, .int .i64 x.p, .string x.s] 144)) := (BW.refl _).alloc
          have L11 := Lib.hid (Sls.new1 (E := TN) w10 144 [.int .i64 x.n, .int .i64 (nextT tick x).t, .int .i64 x.p, .string x.s] rfl)
          have A11 := Lib.hid (A10.out.bw W11)
          have I11 := Lib.hid (I10.out.bw W11)
          have Q11 := Lib.hid (Q10.out.bw W11)
          have T12 := Lib.hid (T11.out.trans (W11.still W))
          have hz12 := Lib.hid (Nat.le_trans hb0.out T12.out.size)
          have R11 : Hid (TN.R (w10.alloc (.cells #[.int .i64 x.n, .int .i64 (nextT tick x).t, .int .i64 x.p, .string x.s] 144)) base (nextT tick x) [.int .i64 x.n, .int .i64 (nextT tick x).t, .int .i64 x.p, .string x.s]) := Lib.hid ⟨rfl, hrx⟩
          clear A10 I10 Q10 T11 X10
          replace W11 := Lib.hid W11
          go_wp2_with (at_builtin; go_must (refine wpList_apEQ slTa rfl _ _ rfl base (.slice sg na ca) na (againT tick pd) rfl A11.out _ rfl 1 [nextT tick x] [.int .i64 x.n, .int .i64 (nextT tick x).t, .int .i64 x.p, .string x.s] L11.out (EL.single R11.out) rfl (by omega) hz12.out (fun _ _ => trivial) ?_; intro s13 c13 w13 hc13 hm13 A13 T13 hb13 G13; unfold maxLen at hm13; replace A13 := Lib.hid A13; replace T13 := Lib.hid T13; replace G13 := Lib.hid G13; clear hb13))
          have hw13 : ∀ k ∈ (Value.slice sg na ca).ownBlock.toList, w.heap.size ≤ k := fun k hk => hG2.out k (by simpa using hk)
          have F13 : Hid (∀ j, (Value.slice s13 (na + 1) c13).ownBlock = some j → w.heap.size ≤ j) := Lib.hid (fun j hj => by
            rcases G13.out j hj with h | h
            · exact hG2.out j h
            · exact Nat.le_trans T12.out.size h)
          have I13 := Lib.hid (I11.out.still T13.out (fun hm => by have := hw13 _ hm; have := hWl.out g0 (by rw [← hW'.out 0]; exact List.mem_cons_self); omega) (fun k hk hm => by have := hw13 _ hm; have := hWl.out k (by rw [← hW'.out S'.length, hk]; simp); omega))
          have Q13 := Lib.hid (Q11.out.still T13.out (fun _ _ => trivial) (Q11.out.sepT A11.out (by decide)))
          have T14 := Lib.hid (T12.out.transT T13.out (fun k hk => .inr (hw13 k hk)))
          have A14 : Hid (EQ TN 144 w13 base (.slice s13 (na + 1) c13) (na + 1) (againT tick (pd ++ [x]))) := Lib.hid (by rw [ha2.out]; exact A13.out)
          have hna2 : Hid ((againT tick (pd ++ [x])).length = na + 1) := Lib.hid (by rw [ha2.out, List.length_append, hna]; rfl)
          clear hw13 T12 T13 G13 Q11 I11 A11 A13 L11 R11
          go_roundg S'.length
          case measure => first | exact Nat.lt_succ_self _ | omega
          case rel => exact ⟨S', H5, pd ++ [x], s8, c8, nd + 1, s13, c13, na + 1, rfl, hS2, hpd2, hnd2.out, hna2.out, by omega, by omega, rfl, hm8, rfl, hm13, hc13, I13, Q13, A14, F8, F13, T14⟩
        · have d2 : decide (0 < x.p) = false := by simpa using hxp
          have ha2 : againT tick (pd ++ [x]) = againT tick pd := by rw [hag.out, if_neg hxp]
          replace ha2 := Lib.hid ha2
          go_wp2_with fail
          go_roundg S'.length
          case measure => first | exact Nat.lt_succ_self _ | omega
          case rel => exact ⟨S', H5, pd ++ [x], s8, c8, nd + 1, sg, ca, na, rfl, hS2, hpd2, hnd2.out, by rw [ha2.out]; exact hna, by omega, by omega, rfl, hm8, rfl, hca, hcl, I8, O9, by rw [ha2.out]; exact A8, F8, hG2, T9⟩
end Go.Proofs.Ytcempndfbckcaaa
