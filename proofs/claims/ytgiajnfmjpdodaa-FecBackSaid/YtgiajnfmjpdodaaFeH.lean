/- Covers of packets: Make. No condition but the sizes'. -/
import Derived.Test.YtgiajnfmjpdodaaGFa
namespace Go.Proofs.Ytgiajnfmjpdodaa
open Go.RowKit

/-- May a packet be covered beside one of this source? -/
def okD (src : Nat) (d : RtpD) : Bool := (writeN d).isSome && d.source == src
def srcN : List RtpD → Nat
  | [] => 0
  | d :: _ => d.source
/-- A cover's bytes. -/
def outN (D : List RtpD) (f m : Nat) : List Nat := (putB 2 f ++ putB 2 m) ++ xorR (D.map txN)
/-- The cover of packets; none: they are not such. -/
def makeN (D : List RtpD) : Option (List Nat) :=
  if D.length < 2 ∨ 16 < D.length then none else
  match baseN (seqsN D) with
  | none => none
  | some f =>
    if ((maskN f (seqsN D) 0).isSome && D.all (okD (srcN D))) = true ∧ (outN D f ((maskN f (seqsN D) 0).getD 0)).length ≤ 1200 then some (outN D f ((maskN f (seqsN D) 0).getD 0)) else none
def MakePost (D : List RtpD) (w : World) (e : Ending) (w' : World) : Prop :=
  ((∃ b v, makeN D = some b ∧ e = .returned (.tuple #[v, .int .i64 0]) ∧ OB w' w.heap.size 5 v b.length b) ∨ (makeN D = none ∧ e = .returned (.tuple #[.slice none 0 0, .int .i64 1]))) ∧ BW w w'
theorem base_mem {L : List Nat} {f : Nat} (h : baseN L = some f) : f ∈ L := List.mem_of_find?_eq_some h
theorem base_near {L : List Nat} {f : Nat} (h : baseN L = some f) : ∀ x ∈ L, dst f x < 16 := fun x hx => by
  have h1 := List.find?_some h
  rcases Nat.lt_or_ge (dst f x) 16 with q | q
  · exact q
  · have h2 : L.any (farB f) = true := List.any_eq_true.2 ⟨x, hx, decide_eq_true q⟩
    rw [h2] at h1
    cases h1
theorem xorR_le {B : Nat} : ∀ {rows : List (List Nat)} {a : List Nat}, (∀ r ∈ rows, r.length ≤ B) → a.length ≤ B → (rows.foldl xo a).length ≤ B
  | [], _, _, h => h
  | r :: rows, a, hr, h => xorR_le (rows := rows) (fun x hx => hr x (List.mem_cons_of_mem _ hx)) (by rw [xo_len]; exact Nat.max_le.2 ⟨h, hr r List.mem_cons_self⟩)
theorem mask_lt {f : Nat} : ∀ {L : List Nat} {m : Nat}, (∀ x ∈ L, dst f x < 16) → m < 65536 → (maskN f L m).getD 0 < 65536
  | [], m, _, hm => hm
  | t :: L, m, h, hm => by
    unfold maskN
    split
    · decide
    · exact mask_lt (fun x hx => h x (List.mem_cons_of_mem _ hx)) (or16 hm (h t List.mem_cons_self))
theorem mask_lt' {f : Nat} {L : List Nat} {ms : Option Nat} (e : maskN f L 0 = ms) (h : ∀ x ∈ L, dst f x < 16) : ms.getD 0 < 65536 := by
  rw [← e]; exact mask_lt h (by decide)
theorem seqs_lt {D : List RtpD} (h : ∀ d ∈ D, RtpWf d) : ∀ x ∈ seqsN D, x < 65536 := fun x hx => by
  obtain ⟨d, hd, rfl⟩ := List.mem_map.1 hx
  exact (h d hd).seq
set_option maxRecDepth 100000 in
set_option maxHeartbeats 8000000 in
theorem make_any (v : Value) (n : Nat) (D : List RtpD) (w : World) (h : RL w v n D) (hn : n ≤ 1000000) (hpl : ∀ d ∈ D, d.payload.length ≤ 1000000) :
    Calls Try.prog 38 #[v] w (MakePost D w) := by
  unfold MakePost
  have hwf := Lib.hid h.wf
  have hsq := Lib.hid (seqs_lt h.wf)
  obtain ⟨sa, cap, rfl, hnc, hcm⟩ := h.sl
  unfold maxLen at hcm
  have hH := Lib.hid h
  have hdl := Lib.hid h.dl
  have cS := fun wz (hb : BW w wz) => Lib.hid (seqs_any (.slice sa n cap) n D wz (h.bw hb) hn)
  have cB := fun base v wz hq => Lib.hid (base_any base v n (seqsN D) wz hq hn hsq.out)
  have hM : makeN D = if D.length < 2 ∨ 16 < D.length then none else match baseN (seqsN D) with | none => none | some f => if ((maskN f (seqsN D) 0).isSome && D.all (okD (srcN D))) = true ∧ (outN D f ((maskN f (seqsN D) 0).getD 0)).length ≤ 1200 then some (outN D f ((maskN f (seqsN D) 0).getD 0)) else none := rfl
  have hbm : ∀ f, baseN (seqsN D) = some f → f ∈ seqsN D := fun f h => base_mem h
  clear h
  generalize makeN D = R at *
  replace hM := Lib.hid hM
  replace hbm := Lib.hid hbm
  replace hpl := Lib.hid hpl
  go_enter Try.func38, Try.ntmps38
  go_wp2_with fail
  refine Calls.mono (cS w (BW.refl w)).out ?_
  rintro e w1 ⟨u1, rfl, Q1, hb1⟩
  obtain ⟨s1, c1, rfl, hc1, hm1⟩ := Q1.len
  unfold maxLen at hm1
  have B1 := Lib.hid hb1
  clear hb1
  dsimp only
  have cB1 := cB _ _ w1 Q1
  clear cB Q1
  go_wp2_with fail
  refine Calls.mono cB1.out ?_
  rintro e w2 ⟨rfl, hb2⟩
  have B2 := Lib.hid (B1.out.trans hb2)
  clear cB1 hb2 B1
  dsimp only
  by_cases h1 : n < 2
  · have d1 : decide ((n : Int) < 2) = true := by simp; omega
    have hR : R = none := by rw [hM.out, hdl.out, if_pos (.inl h1)]
    replace hR := Lib.hid hR
    clear hM
    go_wp2_with fail
    go_ret2
    exact ⟨.inr ⟨hR.out, rfl⟩, B2.out⟩
  have d1 : decide ((n : Int) < 2) = false := by simp; omega
  by_cases h2 : 16 < n
  · have d2 : decide ((16 : Int) < (n : Int)) = true := by simp; omega
    have hR : R = none := by rw [hM.out, hdl.out, if_pos (.inr h2)]
    replace hR := Lib.hid hR
    clear hM
    go_wp2_with fail
    go_ret2
    exact ⟨.inr ⟨hR.out, rfl⟩, B2.out⟩
  have d2 : decide ((16 : Int) < (n : Int)) = false := by simp; omega
  have hM2 := hM.out
  rw [hdl.out, if_neg (by omega)] at hM2
  clear hM
  cases hf : baseN (seqsN D) with
  | none =>
    rw [hf] at hM2
    replace hM2 := Lib.hid hM2
    replace hf := Lib.hid hf
    go_wp2_with fail
    go_ret2
    exact ⟨.inr ⟨hM2.out, rfl⟩, B2.out⟩
  | some f =>
    rw [hf] at hM2
    dsimp only at hM2
    have hf16 := hsq.out f (hbm.out f hf)
    have hnr := base_near hf
    have cK := fun base v wz hq => Lib.hid (mask_any base f v n (seqsN D) wz hq hn hsq.out hf16 hnr)
    replace hnr := Lib.hid hnr
    replace hM2 := Lib.hid hM2
    replace hf := Lib.hid hf
    simp only [Option.isSome_some, Option.getD_some]
    clear hbm
    go_wp2_with fail
    refine Calls.mono (cS w2 B2.out).out ?_
    rintro e w3 ⟨u3, rfl, Q3, hb3⟩
    obtain ⟨s3, c3, rfl, hc3, hm3⟩ := Q3.len
    unfold maxLen at hm3
    have B3 := Lib.hid (B2.out.trans hb3)
    clear hb3 B2 cS
    dsimp only
    have cK1 := cK _ _ w3 Q3
    clear cK Q3
    go_wp2_with fail
    refine Calls.mono cK1.out ?_
    rintro e w4 ⟨rfl, rfl⟩
    clear cK1
    generalize hmk : maskN f (seqsN D) 0 = ms at *
    replace hmk := Lib.hid hmk
    dsimp only
    go_upto_region 7 with (fail)
    go_loopg [7, 8, 41] n (fun m' ok ts i wx => ∃ (k : Nat) (so : Option Addr) (co : Nat), m' = n - k ∧ k ≤ n ∧ ok = .bool (ms.isSome && (D.take k).all (okD (srcN D))) ∧ ts = .slice so k co ∧ co ≤ 9223372036854775807 ∧ i = .int .i64 (k : Nat) ∧ Hid (EQ BR 22 wx w.heap.size (.slice so k co) k ((D.take k).map txN)) ∧ Hid (BW w wx))
    case atStart => exact ⟨0, none, 0, by omega, by omega, by simp, rfl, by omega, rfl, EQ.nil _ _ _ _, B3⟩
    case round =>
      clear B3
      obtain ⟨k, so, co, rfl, hk, rfl, rfl, hco, rfl, O, B⟩ := hrel
      by_cases hkn : k < n
      · have d3 : decide ((k : Int) < (n : Int)) = true := by simp; omega
        obtain ⟨b, o, rfl, hc⟩ := (hH.out.bw B.out).form (by omega)
        have hkD : k < D.length := by rw [hdl.out]; exact hkn
        have h0D : 0 < D.length := by omega
        obtain ⟨_, _, _, _, _, _, -, -, -, -, -, -, -, hcc0⟩ := hc 0 h0D
        have y4 := hcc0 4 (by decide)
        simp only [rtpC, List.getElem?_toArray, List.getElem?_cons_zero, List.getElem?_cons_succ, Nat.add_zero, Nat.zero_mul] at y4
        have hs0 : (D[0]).source = srcN D := by
          cases D with
          | nil => cases h0D
          | cons d l => rfl
        rw [hs0] at y4
        clear hcc0 hs0
        obtain ⟨s5, c5, s8, c8, s9, c9, hV, n1, m1, n2, m2, n3, m3, hcc⟩ := hc k hkD
        have cT := fun wz (hb : BW wr wz) => Lib.hid (text_any _ D[k] wz (hV.bw hb) (hwf.out _ (List.getElem_mem hkD)) (hpl.out _ (List.getElem_mem hkD)))
        have hall : (D.take (k + 1)).all (okD (srcN D)) = ((D.take k).all (okD (srcN D)) && ((writeN D[k]).isSome && (D[k]).source == srcN D)) := by
          rw [List.take_succ_eq_append_getElem hkD, List.all_append]
          simp [okD]
        have hmp : (D.take (k + 1)).map txN = (D.take k).map txN ++ [txN D[k]] := by
          rw [List.take_succ_eq_append_getElem hkD, List.map_append]; rfl
        have z0 := hcc 0 (by decide)
        have z1 := hcc 1 (by decide)
        have z2 := hcc 2 (by decide)
        have z3 := hcc 3 (by decide)
        have z4 := hcc 4 (by decide)
        have z5 := hcc 5 (by decide)
        have z6 := hcc 6 (by decide)
        have z7 := hcc 7 (by decide)
        have z8 := hcc 8 (by decide)
        have z9 := hcc 9 (by decide)
        have z10 := hcc 10 (by decide)
        simp only [rtpC, List.getElem?_toArray, List.getElem?_cons_zero, List.getElem?_cons_succ, Nat.add_zero] at z0 z1 z2 z3 z4 z5 z6 z7 z8 z9 z10
        clear hcc hc hV
        generalize txN D[k] = tx at *
        generalize writeN D[k] = wn at *
        generalize (D[k]).seq = sq at *
        generalize (D[k]).marker = mk at *
        generalize (D[k]).typ = ty at *
        generalize (D[k]).stamp = st at *
        generalize (D[k]).source = so_ at *
        generalize (D[k]).others.length = no at *
        generalize (D[k]).ext = xb at *
        generalize (D[k]).profile = pf at *
        generalize (D[k]).extra.length = ne at *
        generalize (D[k]).payload.length = np at *
        generalize (D[k]).pad = pd at *
        generalize srcN D = src at *
        generalize (D.take k).all (okD src) = okk at *
        replace hall := Lib.hid hall
        replace hmp := Lib.hid hmp
        obtain ⟨wq, rfl⟩ : ∃ y, y = wr := ⟨_, rfl⟩
        go_upto_region 9 with (fail)
        obtain ⟨w5, hw5⟩ : ∃ y, y = wq.alloc (.cells #[.bool mk, .int .u8 (ty : Nat), .int .u16 (sq : Nat), .int .u32 (st : Nat), .int .u32 (so_ : Nat), .slice s5 no c5, .bool xb, .int .u16 (pf : Nat), .slice s8 ne c8, .slice s9 np c9, .int .u8 (pd : Nat)] 28) := ⟨_, rfl⟩
        have B5 : BW wq w5 := by rw [hw5]; exact (BW.refl wq).alloc
        have X5 : HpB w5 wq.heap.size (.cells #[.bool mk, .int .u8 (ty : Nat), .int .u16 (sq : Nat), .int .u32 (st : Nat), .int .u32 (so_ : Nat), .slice s5 no c5, .bool xb, .int .u16 (pf : Nat), .slice s8 ne c8, .slice s9 np c9, .int .u8 (pd : Nat)] 28) := by rw [hw5]; exact HpB.new _ _
        rw [← hw5]
        generalize wq.heap.size = xa at *
        clear hw5 z0 z1 z2 z3 z4 z5 z6 z7 z8 z9 z10
        have cT1 := cT w5 B5
        clear cT
        have x0 := hp_cell (X5) 0
        have x1 := hp_cell (X5) 1
        have x2 := hp_cell (X5) 2
        have x3 := hp_cell (X5) 3
        have x4 := hp_cell (X5) 4
        have x5 := hp_cell (X5) 5
        have x6 := hp_cell (X5) 6
        have x7 := hp_cell (X5) 7
        have x8 := hp_cell (X5) 8
        have x9 := hp_cell (X5) 9
        have x10 := hp_cell (X5) 10
        simp only [List.getElem?_toArray, List.getElem?_cons_zero, List.getElem?_cons_succ] at x0 x1 x2 x3 x4 x5 x6 x7 x8 x9 x10
        go_wp2_with fail
        refine Calls.mono cT1.out ?_
        rintro e w6 ⟨v6, rfl, O6, hb6⟩
        clear cT1
        clear x0 x1 x2 x3 x4 x5 x6 x7 x8 x9 x10
        have y6 := hb6.cell (B5.cell y4)
        have X6 := X5.bw hb6
        have x6 : w6.cell? ⟨xa, 4, none⟩ = some (.int .u32 (so_ : Nat)) := hp_cell X6 4
        have OT := Lib.hid (O6.up (B.out.trans B5).size)
        have B6 := Lib.hid ((B.out.trans B5).trans hb6)
        have O7 := Lib.hid ((O.out.bw B5).bw hb6)
        obtain ⟨s6, c6, rfl, hc6, hm6⟩ := O6.len
        unfold maxLen at hm6
        clear O6 O B X6 X5 hb6 B5 y4 d3
        dsimp only
        go_upto_region 10 with (fail)
        generalize hnt : tx.length = nt at *
        replace hnt := Lib.hid hnt
        have l6 : ∀ y : LaterS [] w6, y.now.cell? ⟨xa, 4, none⟩ = some (.int .u32 (so_ : Nat)) := fun y => y.bw.cell x6
        have m6 : ∀ y : LaterS [] w6, y.now.cell? ⟨b, o + 4, none⟩ = some (.int .u32 (src : Nat)) := fun y => y.bw.cell y6
        clear x6 y6
        cases hp : (ms.isSome && okk) with
        | false =>
          have hok : (ms.isSome && (D.take (k + 1)).all (okD src)) = false := by rw [hall.out, ← Bool.and_assoc, hp]; rfl
          clear hp
          replace hok := Lib.hid hok
          refine wp_region_gg [] [] [] (by kernel_rfl) ?_
          refine hoist [] [] (a1 := ?_) 0 rfl (by kernel_rfl) (.inl ⟨rfl, rfl⟩) rfl rfl rfl (fun x K hK => ?_) ?_
          rotate_left
          · go_big_quiet_op
            exact hK
          refine hoist [] [] (a1 := ?_) 1 rfl (by kernel_rfl) (.inl ⟨rfl, rfl⟩) rfl rfl rfl (fun x K hK => ?_) ?_
          rotate_left
          · go_big_quiet_op
            exact hK
          refine hoist_skip [] [] 2 rfl (by kernel_rfl) (.inl ⟨rfl, rfl⟩) rfl (a1 := ?_) ?_ ?_
          rotate_left
          · simp only [Act.put, List.setIfInBounds_toArray, List.set_cons_succ, List.set_cons_zero]; rfl
          refine hoist [] [] (a1 := ?_) 3 rfl (by kernel_rfl) (.inl ⟨rfl, rfl⟩) rfl rfl rfl (fun x K hK => ?_) ?_
          rotate_left
          · go_big_quiet_op
            exact hK
          refine hoist [] [] (a1 := ?_) 4 rfl (by kernel_rfl) (.inl ⟨rfl, rfl⟩) rfl rfl rfl (fun x K hK => ?_) ?_
          rotate_left
          · go_big_quiet_op
            exact hK
          refine hoist_skip [] [] 5 rfl (by kernel_rfl) (.inl ⟨rfl, rfl⟩) rfl (a1 := ?_) ?_ ?_
          rotate_left
          · simp only [Act.put, List.setIfInBounds_toArray, List.set_cons_succ, List.set_cons_zero]; rfl
          refine hoist_skip [] [] 6 rfl (by kernel_rfl) (.inl ⟨rfl, rfl⟩) rfl (a1 := ?_) ?_ ?_
          rotate_left
          · simp only [Act.put, List.setIfInBounds_toArray, List.set_cons_succ, List.set_cons_zero]; rfl
          refine hoist_skip [] [] 7 rfl (by kernel_rfl) (.inl ⟨rfl, rfl⟩) rfl (a1 := ?_) ?_ ?_
          rotate_left
          · simp only [Act.put, List.setIfInBounds_toArray, List.set_cons_succ, List.set_cons_zero]; rfl
          refine hoist_skip [] [] 8 rfl (by kernel_rfl) (.inl ⟨rfl, rfl⟩) rfl (a1 := ?_) ?_ ?_
          rotate_left
          · simp only [Act.put, List.setIfInBounds_toArray, List.set_cons_succ, List.set_cons_zero]; rfl
          refine hoist_skip [] [] 9 rfl (by kernel_rfl) (.inl ⟨rfl, rfl⟩) rfl (a1 := ?_) ?_ ?_
          rotate_left
          · simp only [Act.put, List.setIfInBounds_toArray, List.set_cons_succ, List.set_cons_zero]; rfl
          refine hoist_skip [] [] 10 rfl (by kernel_rfl) (.inl ⟨rfl, rfl⟩) rfl (a1 := ?_) ?_ ?_
          rotate_left
          · simp only [Act.put, List.setIfInBounds_toArray, List.set_cons_succ, List.set_cons_zero]; rfl
          refine hoist_skip [] [] 11 rfl (by kernel_rfl) (.inl ⟨rfl, rfl⟩) rfl (a1 := ?_) ?_ ?_
          rotate_left
          · simp only [Act.put, List.setIfInBounds_toArray, List.set_cons_succ, List.set_cons_zero]; rfl
          refine hoist [] [] (a1 := ?_) 12 rfl (by kernel_rfl) (.inl ⟨rfl, rfl⟩) rfl rfl rfl (fun x K hK => ?_) ?_
          rotate_left
          · go_big_quiet_op
            exact hK
          refine hoist [] [] (a1 := ?_) 13 rfl (by kernel_rfl) (.inl ⟨rfl, rfl⟩) rfl rfl rfl (fun x K hK => ?_) ?_
          rotate_left
          · go_big_quiet_op
            exact hK
          refine done (by kernel_rfl) (fun xr => ?_)
          have OT7 := OT.out.bw xr.bw
          have B7 := B6.out.trans xr.bw
          have O8 := O7.out.bw xr.bw
          generalize xr.now = w7 at *
          clear OT B6 O7 l6 m6
          have BA : BW w7 (w7.alloc (.cells #[.slice s6 nt c6] 22)) := (BW.refl _).alloc
          have L3 := Lib.hid (Sls.new1 (E := BR) w7 22 [.slice s6 nt c6] rfl)
          have O9 := Lib.hid (O8.bw BA)
          have OT9 : Hid (BR.R (w7.alloc (.cells #[.slice s6 nt c6] 22)) w.heap.size tx [.slice s6 nt c6]) := Lib.hid ⟨_, rfl, by rw [hnt.out]; exact OT7.bw BA⟩
          have B9 := Lib.hid (B7.trans BA)
          have hz9 := B9.out.size
          clear OT7 B7 O8
          replace BA := Lib.hid BA
          go_wp2_with (at_builtin; go_must (refine wpList_apEQ slSS rfl _ _ rfl w.heap.size (.slice so k co) k ((D.take k).map txN) rfl O9.out _ rfl 1 [tx] [.slice s6 nt c6] L3.out (EL.single OT9.out) rfl (by omega) hz9 (O9.out.noB (by decide)) ?_; intro s10 c10 w10 hc10 hm10 O10 T10 hb10 G10; unfold maxLen at hm10; replace O10 := Lib.hid O10; replace T10 := Lib.hid T10; clear G10 hb10))
          have B10 := Lib.hid (BW.stP B9.out T10.out (fun j hj => O9.out.ge' j (by simpa using hj)))
          have O11 : Hid (EQ BR 22 w10 w.heap.size (.slice s10 (k + 1) c10) (k + 1) ((D.take (k + 1)).map txN)) := Lib.hid (by rw [hmp.out]; exact O10.out)
          clear O10 T10 O9 B9 L3 OT9
          go_wp2_with fail
          go_roundg (n - (k + 1))
          case measure => omega
          case rel => exact ⟨k + 1, s10, c10, by omega, by omega, by rw [hok.out], rfl, hm10, by push_cast; rfl, O11, B10⟩
        | true =>
          cases hq : wn.isSome with
          | false =>
            have hok : (ms.isSome && (D.take (k + 1)).all (okD src)) = false := by rw [hall.out, ← Bool.and_assoc, hp, hq]; rfl
            clear hp hq
            replace hok := Lib.hid hok
            refine wp_region_gg [] [] [] (by kernel_rfl) ?_
            refine hoist [] [] (a1 := ?_) 0 rfl (by kernel_rfl) (.inl ⟨rfl, rfl⟩) rfl rfl rfl (fun x K hK => ?_) ?_
            rotate_left
            · go_big_quiet_op
              exact hK
            refine hoist [] [] (a1 := ?_) 1 rfl (by kernel_rfl) (.inl ⟨rfl, rfl⟩) rfl rfl rfl (fun x K hK => ?_) ?_
            rotate_left
            · go_big_quiet_op
              exact hK
            refine hoist [] [] (a1 := ?_) 2 rfl (by kernel_rfl) (.inl ⟨rfl, rfl⟩) rfl rfl rfl (fun x K hK => ?_) ?_
            rotate_left
            · go_big_quiet_op
              exact hK
            refine hoist [] [] (a1 := ?_) 3 rfl (by kernel_rfl) (.inl ⟨rfl, rfl⟩) rfl rfl rfl (fun x K hK => ?_) ?_
            rotate_left
            · go_big_quiet_op
              exact hK
            refine hoist [] [] (a1 := ?_) 4 rfl (by kernel_rfl) (.inl ⟨rfl, rfl⟩) rfl rfl rfl (fun x K hK => ?_) ?_
            rotate_left
            · go_big_quiet_op
              exact hK
            refine hoist_skip [] [] 5 rfl (by kernel_rfl) (.inl ⟨rfl, rfl⟩) rfl (a1 := ?_) ?_ ?_
            rotate_left
            · simp only [Act.put, List.setIfInBounds_toArray, List.set_cons_succ, List.set_cons_zero]; rfl
            refine hoist_skip [] [] 6 rfl (by kernel_rfl) (.inl ⟨rfl, rfl⟩) rfl (a1 := ?_) ?_ ?_
            rotate_left
            · simp only [Act.put, List.setIfInBounds_toArray, List.set_cons_succ, List.set_cons_zero]; rfl
            refine hoist_skip [] [] 7 rfl (by kernel_rfl) (.inl ⟨rfl, rfl⟩) rfl (a1 := ?_) ?_ ?_
            rotate_left
            · simp only [Act.put, List.setIfInBounds_toArray, List.set_cons_succ, List.set_cons_zero]; rfl
            refine hoist_skip [] [] 8 rfl (by kernel_rfl) (.inl ⟨rfl, rfl⟩) rfl (a1 := ?_) ?_ ?_
            rotate_left
            · simp only [Act.put, List.setIfInBounds_toArray, List.set_cons_succ, List.set_cons_zero]; rfl
            refine hoist_skip [] [] 9 rfl (by kernel_rfl) (.inl ⟨rfl, rfl⟩) rfl (a1 := ?_) ?_ ?_
            rotate_left
            · simp only [Act.put, List.setIfInBounds_toArray, List.set_cons_succ, List.set_cons_zero]; rfl
            refine hoist_skip [] [] 10 rfl (by kernel_rfl) (.inl ⟨rfl, rfl⟩) rfl (a1 := ?_) ?_ ?_
            rotate_left
            · simp only [Act.put, List.setIfInBounds_toArray, List.set_cons_succ, List.set_cons_zero]; rfl
            refine hoist_skip [] [] 11 rfl (by kernel_rfl) (.inl ⟨rfl, rfl⟩) rfl (a1 := ?_) ?_ ?_
            rotate_left
            · simp only [Act.put, List.setIfInBounds_toArray, List.set_cons_succ, List.set_cons_zero]; rfl
            refine hoist [] [] (a1 := ?_) 12 rfl (by kernel_rfl) (.inl ⟨rfl, rfl⟩) rfl rfl rfl (fun x K hK => ?_) ?_
            rotate_left
            · go_big_quiet_op
              exact hK
            refine hoist [] [] (a1 := ?_) 13 rfl (by kernel_rfl) (.inl ⟨rfl, rfl⟩) rfl rfl rfl (fun x K hK => ?_) ?_
            rotate_left
            · go_big_quiet_op
              exact hK
            refine done (by kernel_rfl) (fun xr => ?_)
            have OT7 := OT.out.bw xr.bw
            have B7 := B6.out.trans xr.bw
            have O8 := O7.out.bw xr.bw
            generalize xr.now = w7 at *
            clear OT B6 O7 l6 m6
            have BA : BW w7 (w7.alloc (.cells #[.slice s6 nt c6] 22)) := (BW.refl _).alloc
            have L3 := Lib.hid (Sls.new1 (E := BR) w7 22 [.slice s6 nt c6] rfl)
            have O9 := Lib.hid (O8.bw BA)
            have OT9 : Hid (BR.R (w7.alloc (.cells #[.slice s6 nt c6] 22)) w.heap.size tx [.slice s6 nt c6]) := Lib.hid ⟨_, rfl, by rw [hnt.out]; exact OT7.bw BA⟩
            have B9 := Lib.hid (B7.trans BA)
            have hz9 := B9.out.size
            clear OT7 B7 O8
            replace BA := Lib.hid BA
            go_wp2_with (at_builtin; go_must (refine wpList_apEQ slSS rfl _ _ rfl w.heap.size (.slice so k co) k ((D.take k).map txN) rfl O9.out _ rfl 1 [tx] [.slice s6 nt c6] L3.out (EL.single OT9.out) rfl (by omega) hz9 (O9.out.noB (by decide)) ?_; intro s10 c10 w10 hc10 hm10 O10 T10 hb10 G10; unfold maxLen at hm10; replace O10 := Lib.hid O10; replace T10 := Lib.hid T10; clear G10 hb10))
            have B10 := Lib.hid (BW.stP B9.out T10.out (fun j hj => O9.out.ge' j (by simpa using hj)))
            have O11 : Hid (EQ BR 22 w10 w.heap.size (.slice s10 (k + 1) c10) (k + 1) ((D.take (k + 1)).map txN)) := Lib.hid (by rw [hmp.out]; exact O10.out)
            clear O10 T10 O9 B9 L3 OT9
            go_wp2_with fail
            go_roundg (n - (k + 1))
            case measure => omega
            case rel => exact ⟨k + 1, s10, c10, by omega, by omega, by rw [hok.out], rfl, hm10, by push_cast; rfl, O11, B10⟩
          | true =>
            have hok : (ms.isSome && (D.take (k + 1)).all (okD src)) = ((so_ : Int) == (src : Int)) := by
              rw [hall.out, ← Bool.and_assoc, hp, hq, Bool.true_and, Bool.true_and, Bool.eq_iff_iff]
              simp only [beq_iff_eq]
              omega
            clear hp hq
            replace hok := Lib.hid hok
            refine wp_region_gg [] [] [] (by kernel_rfl) ?_
            refine hoist [] [] (a1 := ?_) 0 rfl (by kernel_rfl) (.inl ⟨rfl, rfl⟩) rfl rfl rfl (fun x K hK => ?_) ?_
            rotate_left
            · go_big_quiet_op
              exact hK
            refine hoist [] [] (a1 := ?_) 1 rfl (by kernel_rfl) (.inl ⟨rfl, rfl⟩) rfl rfl rfl (fun x K hK => ?_) ?_
            rotate_left
            · go_big_quiet_op
              exact hK
            refine hoist [] [] (a1 := ?_) 2 rfl (by kernel_rfl) (.inl ⟨rfl, rfl⟩) rfl rfl rfl (fun x K hK => ?_) ?_
            rotate_left
            · go_big_quiet_op
              exact hK
            refine hoist [] [] (a1 := ?_) 3 rfl (by kernel_rfl) (.inl ⟨rfl, rfl⟩) rfl rfl rfl (fun x K hK => ?_) ?_
            rotate_left
            · go_big_quiet_op
              exact hK
            refine hoist [] [] (a1 := ?_) 4 rfl (by kernel_rfl) (.inl ⟨rfl, rfl⟩) rfl rfl rfl (fun x K hK => ?_) ?_
            rotate_left
            · go_big_quiet_op
              exact hK
            refine hoist [] [] (a1 := ?_) 5 rfl (by kernel_rfl) (.inl ⟨rfl, rfl⟩) rfl rfl rfl (fun x K hK => ?_) ?_
            rotate_left
            · go_big_quiet_op
              exact hK
            refine hoist [] [] (a1 := ?_) 6 rfl (by kernel_rfl) (.inl ⟨rfl, rfl⟩) rfl rfl rfl (fun x K hK => ?_) ?_
            rotate_left
            · go_big_quiet_op
              exact hK
            refine hoist [] [] (a1 := ?_) 7 rfl (by kernel_rfl) (.inl ⟨rfl, rfl⟩) rfl rfl rfl (fun x K hK => ?_) ?_
            rotate_left
            · go_big_quiet_op
              exact hK
            refine hoist [] [] (a1 := ?_) 8 rfl (by kernel_rfl) (.inl ⟨rfl, rfl⟩) rfl rfl rfl (fun x K hK => ?_) ?_
            rotate_left
            · go_big_quiet_op
              exact hK
            refine hoist [] [] (a1 := ?_) 9 rfl (by kernel_rfl) (.inl ⟨rfl, rfl⟩) rfl rfl rfl (fun x K hK => ?_) ?_
            rotate_left
            · go_big_quiet_op
              exact hK
            refine hoist [] [] (a1 := ?_) 10 rfl (by kernel_rfl) (.inl ⟨rfl, rfl⟩) rfl rfl rfl (fun x K hK => ?_) ?_
            rotate_left
            · go_big_quiet_op
              exact hK
            refine hoist [] [] (a1 := ?_) 11 rfl (by kernel_rfl) (.inl ⟨rfl, rfl⟩) rfl rfl rfl (fun x K hK => ?_) ?_
            rotate_left
            · go_big_quiet_op
              exact hK
            refine hoist [] [] (a1 := ?_) 12 rfl (by kernel_rfl) (.inl ⟨rfl, rfl⟩) rfl rfl rfl (fun x K hK => ?_) ?_
            rotate_left
            · go_big_quiet_op
              exact hK
            refine hoist [] [] (a1 := ?_) 13 rfl (by kernel_rfl) (.inl ⟨rfl, rfl⟩) rfl rfl rfl (fun x K hK => ?_) ?_
            rotate_left
            · go_big_quiet_op
              exact hK
            refine done (by kernel_rfl) (fun xr => ?_)
            have OT7 := OT.out.bw xr.bw
            have B7 := B6.out.trans xr.bw
            have O8 := O7.out.bw xr.bw
            generalize xr.now = w7 at *
            clear OT B6 O7 l6 m6
            have BA : BW w7 (w7.alloc (.cells #[.slice s6 nt c6] 22)) := (BW.refl _).alloc
            have L3 := Lib.hid (Sls.new1 (E := BR) w7 22 [.slice s6 nt c6] rfl)
            have O9 := Lib.hid (O8.bw BA)
            have OT9 : Hid (BR.R (w7.alloc (.cells #[.slice s6 nt c6] 22)) w.heap.size tx [.slice s6 nt c6]) := Lib.hid ⟨_, rfl, by rw [hnt.out]; exact OT7.bw BA⟩
            have B9 := Lib.hid (B7.trans BA)
            have hz9 := B9.out.size
            clear OT7 B7 O8
            replace BA := Lib.hid BA
            go_wp2_with (at_builtin; go_must (refine wpList_apEQ slSS rfl _ _ rfl w.heap.size (.slice so k co) k ((D.take k).map txN) rfl O9.out _ rfl 1 [tx] [.slice s6 nt c6] L3.out (EL.single OT9.out) rfl (by omega) hz9 (O9.out.noB (by decide)) ?_; intro s10 c10 w10 hc10 hm10 O10 T10 hb10 G10; unfold maxLen at hm10; replace O10 := Lib.hid O10; replace T10 := Lib.hid T10; clear G10 hb10))
            have B10 := Lib.hid (BW.stP B9.out T10.out (fun j hj => O9.out.ge' j (by simpa using hj)))
            have O11 : Hid (EQ BR 22 w10 w.heap.size (.slice s10 (k + 1) c10) (k + 1) ((D.take (k + 1)).map txN)) := Lib.hid (by rw [hmp.out]; exact O10.out)
            clear O10 T10 O9 B9 L3 OT9
            go_wp2_with fail
            go_roundg (n - (k + 1))
            case measure => omega
            case rel => exact ⟨k + 1, s10, c10, by omega, by omega, by rw [hok.out], rfl, hm10, by push_cast; rfl, O11, B10⟩
      · obtain rfl : k = n := by omega
        have d3 : decide ((k : Int) < (k : Int)) = false := by simp
        have htk : D.take k = D := List.take_of_length_le (by rw [hdl.out]; exact Nat.le_refl _)
        rw [htk] at O
        simp only [htk]
        clear htk
        have hM3 := hM2.out
        have hm16 := mask_lt' hmk.out hnr.out
        have hlm : (outN D f (ms.getD 0)).length = 4 + (xorR (D.map txN)).length := by
          unfold outN; simp only [List.length_append, putB_len]
        have hOd : ([putB 2 f ++ putB 2 (ms.getD 0), xorR (D.map txN)] : List (List Nat)).flatten = outN D f (ms.getD 0) := by unfold outN; simp
        generalize outN D f (ms.getD 0) = OUT at *
        generalize ms.getD 0 = m at *
        generalize (ms.isSome && D.all (okD (srcN D))) = ok at *
        have hrw : ∀ r ∈ D.map txN, r.length ≤ 1202 := fun r hr => by
          obtain ⟨d, _, rfl⟩ := List.mem_map.1 hr
          exact txN_le d
        have hxl := xorR_le hrw (a := []) (Nat.zero_le _)
        have cX := Lib.hid fun wz (hb : BW wr wz) => xor_any (.slice so k co) k (D.map txN) wz (O.out.bw hb).sm (fun r hr => Nat.le_trans (hrw r hr) (by omega)) hn
        change (xorR (D.map txN)).length ≤ 1202 at hxl
        generalize xorR (D.map txN) = X at *
        have q1 : IntKind.u64.wrap ((f : Nat) : Int) = (f : Nat) := IntWalk.u64_in _ (by omega)
        have q2 : IntKind.u64.wrap ((m : Nat) : Int) = (m : Nat) := IntWalk.u64_in _ (by omega)
        have cP := Lib.hid (put_ok (.slice none 0 0) 0 [] 2 f 2 (by omega) (by omega) rfl (by omega) (by omega) wr (OB.nil wr 0 5).sb)
        clear hM2 hrw
        replace hM3 := Lib.hid hM3
        replace hlm := Lib.hid hlm
        replace hOd := Lib.hid hOd
        obtain ⟨wq, rfl⟩ : ∃ y, y = wr := ⟨_, rfl⟩
        go_wp2_with fail
        refine Calls.mono cP.out ?_
        rintro e w5 ⟨v5, rfl, O5, hb5⟩
        rw [List.nil_append] at O5
        have b5 := (BW.refl wq).call hb5
        clear cP hb5
        have cP2 := put_ok v5 2 (putB 2 f) 2 m 2 (by omega) (by omega) rfl (by omega) (by omega) w5 O5.sb
        obtain ⟨s5, c5, rfl, _, _⟩ := O5.len
        clear O5
        dsimp only
        replace b5 := Lib.hid b5
        replace cP2 := Lib.hid cP2
        go_wp2_with fail
        refine Calls.mono cP2.out ?_
        rintro e w6 ⟨v6, rfl, O6, hb6⟩
        have b6 := Lib.hid (b5.out.call hb6)
        clear cP2 hb6 b5
        obtain ⟨s6, c6, rfl, _, _⟩ := O6.len
        dsimp only
        replace O6 := Lib.hid O6
        go_wp2_with fail
        refine Calls.mono (cX.out w6 b6.out) ?_
        rintro e w7 ⟨v7, rfl, O7, hb7⟩
        have b7 := Lib.hid (b6.out.call hb7)
        have S6 := O6.out.sb.below hb7 (Nat.le_refl _)
        clear hb7 b6 O6 cX
        have M7 := Lib.hid (SM.two w7 _ _ _ v7 _ _ S6 O7.sb)
        obtain ⟨s7, c7, rfl, _, _⟩ := O7.len
        clear S6 O7
        generalize hXl : X.length = nX at *
        replace hXl := Lib.hid hXl
        dsimp only
        go_wp2_with fail
        have hsz : ([putB 2 f ++ putB 2 m, X] : List (List Nat)).flatten.length ≤ 1000000000 := by
          rw [hOd.out, hlm.out]; omega
        have cC := concat_ok _ 2 _ hsz _ M7.out
        rw [hOd.out] at cC
        refine Calls.mono cC ?_
        rintro e w8 ⟨v8, rfl, O8, hb8⟩
        have b8 := Lib.hid ((b7.out.trans (BW.refl w7).alloc).call hb8)
        have B8 := Lib.hid (B.out.trans b8.out)
        have O9 := Lib.hid (O8.up (Nat.le_trans (B.out.trans b7.out).size (BW.refl w7).alloc.size))
        obtain ⟨s8, c8, rfl, _, _⟩ := O9.out.len
        clear cC hsz M7 O8 hb8 b8 b7 O
        generalize hol : OUT.length = no at *
        replace hol := Lib.hid hol
        replace hlm := Lib.hid hlm
        dsimp only
        have hM4 := hM3.out
        clear hM3
        cases ok with
        | false =>
          rw [if_neg (by simp)] at hM4
          replace hM4 := Lib.hid hM4
          go_wp2_with fail
          go_ret2
          exact ⟨.inr ⟨hM4.out, rfl⟩, B8.out⟩
        | true =>
          by_cases hL : 1200 < no
          · have d4 : decide ((1200 : Int) < (no : Int)) = true := by simp; omega
            rw [if_neg (by omega)] at hM4
            replace hM4 := Lib.hid hM4
            go_wp2_with fail
            go_ret2
            exact ⟨.inr ⟨hM4.out, rfl⟩, B8.out⟩
          · have d4 : decide ((1200 : Int) < (no : Int)) = false := by simp; omega
            rw [if_pos ⟨rfl, by omega⟩] at hM4
            replace hM4 := Lib.hid hM4
            go_wp2_with fail
            go_ret2
            exact ⟨.inl ⟨OUT, _, hM4.out, rfl, by rw [hol.out]; exact O9.out⟩, B8.out⟩
end Go.Proofs.Ytgiajnfmjpdodaa
