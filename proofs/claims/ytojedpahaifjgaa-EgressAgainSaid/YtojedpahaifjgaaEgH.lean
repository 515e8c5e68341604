/- An egress of plain media: Push, Keep, Tick over its whole state. No condition but the numbers' bounds. -/
import Derived.Test.YtojedpahaifjgaaEgG
import Derived.Test.YtojedpahaifjgaaEgP
namespace Go.Proofs.Ytojedpahaifjgaa
open Go.RowKit

theorem EgI.st {w w' : World} {base g gc gr gb src many wanted goes first fol a0 b0 out l0 pk by_ v L rate burst hav} (h : EgI w base g gc gr gb src many wanted goes first fol a0 b0 out l0 pk by_ v L rate burst hav) {S : List Nat} (hs : Still S w w') (hS : ∀ k ∈ S, NoB w k) (h1 : g ∉ S) (h2 : gc ∉ S) (h3 : gr ∉ S) (h4 : gb ∉ S) (h5 : ∀ k, v.ownBlock = some k → k ∉ S) : EgI w' base g gc gr gb src many wanted goes first fol a0 b0 out l0 pk by_ v L rate burst hav := by
  obtain ⟨⟨a1, a2, b1, b2, l1, l2, hp⟩, ch, rg, bk⟩ := h
  exact ⟨⟨a1, a2, b1, b2, l1, l2, hp.st hs h1⟩, ch.st hs h2, rg.still hs hS h3 h5, HpB.st (o := .cells _ _) bk hs h4⟩
set_option maxRecDepth 100000 in
set_option maxHeartbeats 8000000 in
theorem push_E (base g gc gr gb : Nat) (src first many wanted goes layer : Int) (tu : Bool) (fol : Bool) (a0 b0 : Int) (out : Bool) (l0 pk by_ : Int) (v : Value) (L : PL) (rate burst hav pl i : Int) (mk : Bool) (ty sq st so : Int) (so_ : Option Addr) (no co : Nat) (xb : Bool) (pf : Int) (se : Option Addr) (ne ce : Nat) (sp : Option Addr) (np cp : Nat) (pd : Int) (y0 : Int) (hi : 0 ≤ i ∧ i ≤ 1152921504606846976) (hl : l0 ≤ y0) (hl0 : -1152921504606846976 ≤ l0 ∧ l0 ≤ 1152921504606846976) (hy : 0 ≤ y0 ∧ y0 ≤ 1152921504606846976) (hf : tu = false → fol = true ∧ 0 ≤ a0 ∧ a0 ≤ i ∧ 0 ≤ b0 ∧ b0 ≤ 1152921504606846976 ∧ b0 + i - a0 = y0) (ht : tu = true → (if out = true then l0 + 1 else first) = y0) (htk : takeN many wanted goes layer true = (true, tu, layer)) (w : World) (h : EgI w base g gc gr gb src many wanted goes first fol a0 b0 out l0 pk by_ v L rate burst hav) :
    Calls Try.prog 11 #[.pointer (some ⟨g, 0, none⟩), .int .i64 layer, .agg (arC pl i mk ty sq st so (.slice so_ no co) xb pf (.slice se ne ce) (.slice sp np cp) pd)] w fun e w' => (∃ n1, e = .returned (.tuple #[.agg (snC y0 mk ty (IntKind.u16.wrap y0) n1 src (.slice none 0 0) xb pf (.slice se ne ce) (.slice sp np cp) pd tu), .bool true])) ∧ EgI w' base g gc gr gb src many wanted layer first true (if tu = true then i else a0) (if tu = true then y0 else b0) true y0 pk by_ v L rate burst hav ∧ Still [gc, g] w w' := by
  obtain ⟨⟨a1, a2, b1, b2, l1, l2, hp⟩, ch, rg, bk⟩ := h
  have hgc := hp_ne ch hp (by decide)
  refine (push_ok g gc gr gb src first many wanted goes layer tu fol a0 a1 a2 b0 b1 b2 out l0 l1 l2 pl i mk ty sq st so so_ no co xb pf se ne ce sp np cp pd y0 hi hl hl0 hy hf ht htk w hgc hp ch).mono ?_
  rintro e w' ⟨he, ⟨A1, A2, B1, B2, L1, L2, H⟩, C, T⟩
  refine ⟨he, ⟨⟨A1, A2, B1, B2, L1, L2, H⟩, C, rg.still T ?_ ?_ ?_, HpB.st (o := .cells _ _) bk T ?_⟩, T⟩
  · intro k hk
    rcases (by simpa using hk : k = gc ∨ k = g) with rfl | rfl
    · exact .inr ⟨_, _, _, ch, by decide⟩
    · exact .inr ⟨_, _, _, hp, by decide⟩
  · have h1 := hp_ne rg.cells ch (by decide)
    have h2 := hp_ne rg.cells hp (by decide)
    simp [h1, h2]
  · intro k hk hm
    rcases (by simpa using hm : k = gc ∨ k = g) with rfl | rfl
    · exact rg.q.ne ch (by decide) _ hk rfl
    · exact rg.q.ne hp (by decide) _ hk rfl
  · have h1 := hp_ne (show HpB w gb (.cells _ _) from bk) ch (by decide)
    have h2 := hp_ne (show HpB w gb (.cells _ _) from bk) hp (by decide)
    simp [h1, h2]
set_option maxRecDepth 100000 in
set_option maxHeartbeats 8000000 in
theorem keep_E (w0 : World) (g gc gr gb : Nat) (src first many wanted goes : Int) (fol : Bool) (a0 b0 : Int) (out : Bool) (l0 pk by_ : Int) (v : Value) (L : PL) (rate burst hav x : Int) (bv : Value) (b : List Nat) (w : World) (h : EgI w w0.heap.size g gc gr gb src many wanted goes first fol a0 b0 out l0 pk by_ v L rate burst hav) (hg : w0.heap.size ≤ gr) (hB : BW w0 w) (hs : Srt L) (hn : L.length ≤ 100000) (hl : lensL L ≤ 100000000)
    (hv : SB w bv b.length b) (hbn : b.length ≤ 100000) (p0 : 1 ≤ pk) (p1 : pk ≤ 9223372036854775807) (y0 : 0 ≤ by_) (y1 : by_ ≤ 9223372036854775807) :
    Calls Try.prog 15 #[.pointer (some ⟨g, 0, none⟩), .int .i64 x, bv] w fun e w' => e = .returned (.int .i64 ((putN pk by_ L x b).1 : Nat)) ∧ (∃ v', EgI w' w0.heap.size g gc gr gb src many wanted goes first fol a0 b0 out l0 pk by_ v' (putN pk by_ L x b).2 rate burst hav) ∧ BW w0 w' := by
  obtain ⟨⟨a1, a2, b1, b2, l1, l2, hp⟩, ch, rg, bk⟩ := h
  have cP := Lib.hid (put_law w0 gr pk by_ v L x bv b w rg hg hB hs hn hl hv hbn p0 p1 y0 y1)
  obtain ⟨sb, cb, rfl, hbc, hbm⟩ := hv.len
  have z16 := (hp_cell hp 16).trans (show _ = some (.pointer (some ⟨gr, 0, none⟩)) from rfl)
  generalize hR : putN pk by_ L x b = R at *
  replace hR := Lib.hid hR
  replace hp := Lib.hid hp
  replace ch := Lib.hid ch
  replace rg := Lib.hid rg
  replace bk := Lib.hid bk
  replace hs := Lib.hid hs
  replace hv := Lib.hid hv
  replace hB := Lib.hid hB
  go_enter Try.func15, Try.ntmps15
  go_wp2_with fail
  refine Calls.mono cP.out ?_
  rintro e w1 ⟨rfl, ⟨v', R1, hG⟩, B1, T1⟩
  have hne : ∀ {k : Nat} {cs : Array Value} {t : TypeId} {f : Nat × Nat}, w.heap[k]? = some (.cells cs t f) → t ≠ 140 → t ≠ 158 → k ∉ gr :: v.ownBlock.toList := fun {k cs t f} hk t1 t2 hm => by
    rcases List.mem_cons.1 hm with rfl | hm
    · exact hp_ne hk rg.out.cells t1 rfl
    · exact rg.out.q.ne hk t2 k (by simpa using hm) rfl
  have H1 := Lib.hid (hp.out.st T1 (hne hp.out (by decide) (by decide)))
  have C1 := Lib.hid (ch.out.st T1 (hne ch.out (by decide) (by decide)))
  have K1 := Lib.hid (HpB.st (o := .cells _ _) bk.out T1 (hne bk.out (by decide) (by decide)))
  replace R1 := Lib.hid R1
  replace B1 := Lib.hid B1
  clear hne T1 hG
  try dsimp only
  go_wp2_with fail
  go_ret
  exact ⟨rfl, ⟨v', ⟨a1, a2, b1, b2, l1, l2, H1.out⟩, C1.out, R1.out, K1.out⟩, B1.out⟩
set_option maxRecDepth 100000 in
set_option maxHeartbeats 8000000 in
theorem tick_E (w0 : World) (g gc gr gb : Nat) (src first many wanted goes : Int) (fol : Bool) (a0 b0 : Int) (out : Bool) (l0 pk by_ : Int) (v : Value) (L : PL) (rate burst hav : Int) (w : World) (h : EgI w w0.heap.size g gc gr gb src many wanted goes first fol a0 b0 out l0 pk by_ v L rate burst hav) (hg : w0.heap.size ≤ gb) (hB : BW w0 w) (hr : 0 ≤ rate) (hh : 0 ≤ hav ∧ hav ≤ 18446744073709551615) :
    Calls Try.prog 17 #[.pointer (some ⟨g, 0, none⟩)] w fun e w' => e = .returned (.tuple #[]) ∧ EgI w' w0.heap.size g gc gr gb src many wanted goes first fol a0 b0 out l0 pk by_ v L rate burst (giveN burst hav rate) ∧ BW w0 w' := by
  obtain ⟨⟨a1, a2, b1, b2, l1, l2, hp⟩, ch, rg, bk⟩ := h
  have cT := Lib.hid (tick_any gb rate burst hav w bk hr hh.1 hh.2)
  have z17 := (hp_cell hp 17).trans (show _ = some (.pointer (some ⟨gb, 0, none⟩)) from rfl)
  replace hp := Lib.hid hp
  replace ch := Lib.hid ch
  replace rg := Lib.hid rg
  replace bk := Lib.hid bk
  replace hB := Lib.hid hB
  go_enter Try.func17, Try.ntmps17
  go_wp2_with fail
  refine Calls.mono cT.out ?_
  rintro e w1 ⟨rfl, wq, hb, rfl⟩
  have hb' : BW w wq := hb
  have T1 : Still [gb] w (wq.setCell ⟨gb, 2, none⟩ (.int .u64 (giveN burst hav rate))) := (hb'.still [gb]).trans (still_sc wq gb 2 _)
  have K1 := Lib.hid ((show Bk wq gb rate burst hav from hb'.heap bk.out).set (giveN burst hav rate))
  have hne : ∀ {k : Nat} {cs : Array Value} {t : TypeId} {f : Nat × Nat}, w.heap[k]? = some (.cells cs t f) → t ≠ 142 → k ∉ [gb] := fun {k cs t f} hk t1 hm => by
    obtain rfl : k = gb := by simpa using hm
    exact hp_ne hk (show HpB w k (.cells _ _) from bk.out) t1 rfl
  have H1 := Lib.hid (hp.out.st T1 (hne hp.out (by decide)))
  have C1 := Lib.hid (ch.out.st T1 (hne ch.out (by decide)))
  have R1 := Lib.hid (rg.out.still T1 (fun k hk => by obtain rfl : k = gb := (by simpa using hk); exact .inr ⟨_, _, _, bk.out, by decide⟩) (hne rg.out.cells (by decide)) (fun k hk hm => by obtain rfl : k = gb := (by simpa using hm); exact rg.out.q.ne bk.out (by decide) _ hk rfl))
  have B1 := Lib.hid (BW.stP hB.out T1 (fun k hk => by obtain rfl : k = gb := (by simpa using hk); exact hg))
  clear hne T1 hb hb'
  generalize wq.setCell ⟨gb, 2, none⟩ (.int .u64 (giveN burst hav rate)) = w2 at *
  try dsimp only
  go_wp2_with fail
  go_end0
  exact ⟨rfl, ⟨⟨a1, a2, b1, b2, l1, l2, H1.out⟩, C1.out, R1.out, K1.out⟩, B1.out⟩
end Go.Proofs.Ytojedpahaifjgaa
