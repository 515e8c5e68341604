/- The law OfferFrames: the walk. No condition beyond the row's own. -/
import Derived.Test.YtafhnlnhflehhaaDoorOfZ
namespace Go.Proofs.YtafhnlnhflehhaaDoor
open Go.RowKit
theorem EL.conv {α : Type} {E E' : Elt α} {w : World} {base : Nat} (hR : ∀ a c, E.R w base a c → E'.R w base a c) : ∀ {l : List α} {xs : List Value}, EL E w base l xs → EL E' w base l xs
 | [], _, h => h
 | _ :: _, _, ⟨c, xs', e, h1, h2⟩ => ⟨c, xs', e, hR _ _ h1, h2.conv hR⟩
theorem fm_conv {w0 w0' w : World} {T : TypeId} {base n : Nat} {v : Value} {L : List FrD} (h : EQ (EFm w0) T w base v n L) (hb : BW w0 w0') : EQ (EFm w0') T w base v n L := by
 obtain ⟨h1, xs, h2, h3⟩ := h
 refine ⟨h1, xs, h2, EL.conv (E := EFm w0) (E' := EFm w0') (fun a c h => ?_) h3⟩
 obtain ⟨s, m, cp, e, h⟩ := h
 exact ⟨s, m, cp, e, h.imp_left (fun h => h.bw hb)⟩
theorem heL_congr (st : Int) (p q : HearD → Bool) : ∀ H : List HearD, (∀ x ∈ H, p x = q x) → heL st p H = heL st q H
 | [], _ => rfl
 | x :: H, h => by
  have h1 := h x (by simp)
  have h2 := heL_congr st p q H (fun y hy => h y (by simp [hy]))
  unfold heL at h2 ⊢
  rw [List.flatMap_cons, List.flatMap_cons, h1, h2]
theorem raw_same {d : OffD} (h : MayO d) (rm : Int) : rawL d rm (fun x => x.l != -1) = rawL d rm (fun x => decide (0 ≤ x.l)) := by
 unfold rawL
 rw [heL_congr d.seat _ (fun x => decide (0 ≤ x.l)) d.H (fun x hx => ?_)]
 obtain ⟨i, hi, rfl⟩ := List.mem_iff_getElem.1 hx
 have := (h.2.2.1 i hi).2.2.1.1
 rw [he_get hi] at this
 by_cases e : d.H[i].l = -1
 ·rw [e]; rfl
 ·rw [bne_iff_ne.2 e, decide_eq_true (by omega)]
set_option maxRecDepth 100000 in
set_option maxHeartbeats 8000000 in
theorem law_frames (cs : Array Value) (rm nn : Int) (w : World) (h : Rd w offTy cs.toList) (_hr : (Lit.int .i64 rm).wf = true) (hn : (Lit.int .u64 nn).wf = true) :
  Calls Tryd.prog 3 #[.agg cs, .int .i64 rm, .int .u64 nn] w fun e w' => e = .returned (.bool true) ∧ Below w.heap.size w w' := by
 obtain ⟨d, sW, cW, sH, cH, hO, -, -, -⟩ := off_of_Rd h
 clear h
 obtain ⟨nonce, rfl⟩ : ∃ n : Nat, nn = n := ⟨nn.toNat, by have := bounds_u64 hn; omega⟩
 clear hn
 have B := (BW.refl w).alloc (o := .cells cs 25)
 have X := HpB.new w (.cells cs 25)
 have hsz : cs.size = 3 := by rw [hO.e]; rfl
 have O := Lib.hid hO
 clear hO
 replace B := Lib.hid B
 replace X := Lib.hid X
 replace hsz := Lib.hid hsz
 go_enter Tryd.func3, Tryd.ntmps3
 go_upto_region 1 with (fail)
 generalize w.alloc _ = w1 at *
 generalize w.heap.size = g at *
 go_wp2_with fail
 refine Calls.mono (alive48 w1) ?_
 rintro e w2 ⟨rfl, hb⟩
 replace X := Lib.hid (X.out.bw hb)
 replace B := Lib.hid (B.out.trans hb)
 clear hb
 dsimp only
 go_wp2_with (refine swLd swOf rfl rfl rfl X.out hsz.out ?_)
 refine Calls.mono (great48_any cs d sW cW sH cH w2 (O.out.bw B.out)) ?_
 rintro e w3 ⟨⟨gb, rfl, hG⟩, hb⟩
 replace X := Lib.hid (X.out.bw hb)
 replace B := Lib.hid (B.out.trans hb)
 clear hb
 dsimp only
 cases gb with
 | true =>
  go_wp2_with fail
  go_ret
  exact ⟨rfl, B.out.bel⟩
 | false =>
  obtain ⟨g1, g2, g3⟩ := hG rfl
  clear hG
  go_wp2_with (refine swLd swOf rfl rfl rfl X.out hsz.out ?_)
  refine Calls.mono (frames_any cs d sW cW sH cH rm nonce w3 (O.out.bw B.out) g2 g1 g3) ?_
  rintro e w4 ⟨hr, hb⟩
  replace X := Lib.hid (X.out.bw hb)
  have B3 := B
  replace B := Lib.hid (B.out.trans hb)
  have B34 := Lib.hid hb
  clear hb
  have cR := Lib.hid (fun (y : World) (hy : BW w y) => rmay_any cs d sW cW sH cH y (O.out.bw hy))
  rcases hr with ⟨hM, s1, n1, c1, rfl, hn1, hn1k, Q1⟩ | ⟨hM, rfl⟩
  ·replace Q1 := Lib.hid Q1
   replace hM := Lib.hid hM
   replace hn1 := Lib.hid hn1
   dsimp only
   go_wp2_with (refine swLd swOf rfl rfl rfl X.out hsz.out ?_)
   refine Calls.mono (cR.out w4 B.out) ?_
   rintro e w5 ⟨⟨b, rfl, hb1⟩, hb⟩
   obtain rfl : b = true := hb1.2 hM.out
   replace X := Lib.hid (X.out.bw hb)
   replace B := Lib.hid (B.out.trans hb)
   replace B34 := Lib.hid (B34.out.trans hb)
   replace Q1 := Lib.hid (Q1.out.bw hb)
   clear hb hb1 cR
   dsimp only
   go_wp2_with (refine swLd swOf rfl rfl rfl X.out hsz.out ?_)
   refine Calls.mono (rframes_any cs d sW cW sH cH rm nonce w5 (O.out.bw B.out) g2 g3) ?_
   rintro e w6 ⟨⟨s2, n2, c2, rfl, hn2, hn2k, Q2⟩, hb⟩
   have e1 := raw_same hM.out rm
   obtain rfl : n1 = n2 := by rw [hn1.out, hn2, e1]
   have Q3 := Lib.hid (fm_conv (Q1.out.bw hb) B34.out)
   rw [e1] at Q3
   replace Q2 := Lib.hid Q2
   replace B := Lib.hid (B.out.trans hb)
   have B56 := Lib.hid hb
   clear hb hn2 e1 Q1 X
   have hQ : Hid (∃ L, EQ (EFm w5) 43 w6 w3.heap.size (.slice s1 n1 c1) n1 L ∧ EQ (EFm w5) 43 w6 w5.heap.size (.slice s2 n1 c2) n1 L) := Lib.hid ⟨_, Q3.out, Q2.out⟩
   clear Q2 Q3
   obtain ⟨L, Q3, Q2⟩ := hQ.out
   dsimp only
   go_wp2_with fail
   refine Calls.mono (samelists_any w5 w3.heap.size w5.heap.size n1 c1 c2 s1 s2 L w6 hn1k Q3 Q2 B56.out) ?_
   rintro e w7 ⟨rfl, hb⟩
   replace B := Lib.hid (B.out.trans hb)
   clear hb
   dsimp only
   go_wp2_with fail
   go_ret
   exact ⟨rfl, B.out.bel⟩
  ·replace hM := Lib.hid hM
   dsimp only
   go_wp2_with (refine swLd swOf rfl rfl rfl X.out hsz.out ?_)
   refine Calls.mono (cR.out w4 B.out) ?_
   rintro e w5 ⟨⟨b, rfl, hb1⟩, hb⟩
   obtain rfl : b = false := by
    cases b with
    | false => rfl
    | true => exact absurd (hb1.1 rfl) hM.out
   replace B := Lib.hid (B.out.trans hb)
   clear hb hb1 cR
   dsimp only
   go_wp2_with fail
   go_ret
   exact ⟨rfl, B.out.bel⟩
end Go.Proofs.YtafhnlnhflehhaaDoor
