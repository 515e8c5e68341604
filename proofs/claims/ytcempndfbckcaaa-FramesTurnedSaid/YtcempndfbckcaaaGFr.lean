/- Frames: small numbers, and bytes of numbers. No condition but the sizes'. Frames: bytes with a tag behind them. No condition but the sizes'. Frames: as values; may one be? No condition but the sizes'. Frames: Write. No condition but the sizes'. Frames: the reference's Write. No condition but the sizes'. -/
import Derived.Test.YtcempndfbckcaaaNs
import Derived.Test.YtcempndfbckcaaaApO
import Derived.Test.YtcempndfbckcaaaPb
import Derived.Lib.Hide
import Derived.Test.YtcempndfbckcaaaGMc
import Derived.Test.YtcempndfbckcaaaEls
import Derived.Test.YtcempndfbckcaaaNum
import Derived.Test.YtcempndfbckcaaaMcE
namespace Go.Proofs.Ytcempndfbckcaaa
open Go.RowKit

/-- No byte below 255. -/
def badB (n : Int) : Bool := decide (n < 0) || decide (255 ≤ n)
theorem bs1_any (n : Int) (w : World) : Calls Try.prog 100 #[.int .i64 n] w fun e w' => e = .returned (.bool (badB n)) ∧ w = w' := by
  by_cases h : n < 0
  · have d : decide (n < 0) = true := by simpa using h
    have e : badB n = true := by unfold badB; rw [d]; rfl
    generalize badB n = r at *
    subst e
    go_enter Try.func100, Try.ntmps100
    go_wp2_with fail
    go_ret
    exact ⟨rfl, rfl⟩
  · have d : decide (n < 0) = false := by simpa using h
    have e : badB n = decide (255 ≤ n) := by unfold badB; rw [d]; rfl
    generalize badB n = r at *
    subst e
    go_enter Try.func100, Try.ntmps100
    go_wp2_with fail
    go_ret
    exact ⟨rfl, rfl⟩
set_option maxRecDepth 100000 in
set_option maxHeartbeats 8000000 in
theorem idxbad_any (v : Value) (n : Nat) (L : List Int) (w : World) (h : NB w .i64 v n L) (hn : n ≤ 1000000) :
    Calls Try.prog 127 #[v, .func (.func 100) #[] #[]] w fun e w' => ∃ r : Int, e = .returned (.int .i64 r) ∧ decide (0 ≤ r) = L.any badB ∧ w = w' := by
  obtain ⟨sa, cap, rfl, hnc, hcm⟩ := h.len
  unfold maxLen at hcm
  have hQ := Lib.hid h
  have hdl := Lib.hid h.1
  clear h
  have cF := Lib.hid bs1_any
  go_enter Try.func127, Try.ntmps127
  go_upto_region 2 with (fail)
  go_loopg [8] n (fun m' i wx => ∃ k : Nat, m' = n - k ∧ k ≤ n ∧ i = .int .i64 (k : Nat) ∧ Hid (L.any badB = (L.drop k).any badB) ∧ w = wx)
  case atStart => exact ⟨0, by omega, by omega, rfl, Lib.hid (by rw [List.drop_zero]), rfl⟩
  case round =>
    obtain ⟨k, rfl, hk, rfl, hA, rfl⟩ := hrel
    by_cases hkn : k < n
    · have d : decide ((k : Int) < (n : Int)) = true := by simp; omega
      have hkL : k < L.length := by rw [hdl.out]; exact hkn
      obtain ⟨b, o, cap', he, _, _, _, hc⟩ := hQ.out.form (by omega)
      cases he
      have z := hc k hkn
      have hA2 := hA.out
      rw [List.drop_eq_getElem_cons hkL, List.any_cons, show L[k] = L.getD k 0 by rw [List.getD_eq_getElem?_getD, List.getElem?_eq_getElem hkL]; rfl] at hA2
      clear hc
      generalize L.getD k 0 = t at *
      have cF1 := cF.out t w
      go_wp2_with fail
      refine Calls.mono cF1 ?_
      rintro e w2 ⟨rfl, rfl⟩
      clear cF1
      dsimp only
      cases hb : badB t with
      | true =>
        have hR : L.any badB = true := by rw [hA2, hb]; rfl
        replace hR := Lib.hid hR
        replace hA2 := Lib.hid hA2
        replace hb := Lib.hid hb
        go_wp2_with fail
        go_ret
        exact ⟨(k : Int), rfl, by rw [hR.out]; simp, rfl⟩
      | false =>
        rw [hb, Bool.false_or] at hA2
        replace hA2 := Lib.hid hA2
        replace hb := Lib.hid hb
        clear z d
        go_wp2_with fail
        go_roundg (n - (k + 1))
        case measure => omega
        case rel => exact ⟨k + 1, rfl, by omega, by push_cast; rfl, hA2, rfl⟩
    · obtain rfl : k = n := by omega
      have d : decide ((k : Int) < (k : Int)) = false := by simp
      have hR : L.any badB = false := by rw [hA.out, List.drop_of_length_le (by rw [hdl.out]; exact Nat.le_refl _)]; rfl
      replace hR := Lib.hid hR
      go_wp2_with fail
      go_ret
      exact ⟨-1, rfl, by rw [hR.out]; decide, rfl⟩
theorem hasbad_any (v : Value) (n : Nat) (L : List Int) (w : World) (h : NB w .i64 v n L) (hn : n ≤ 1000000) :
    Calls Try.prog 99 #[v, .func (.func 100) #[] #[]] w fun e w' => e = .returned (.bool (L.any badB)) ∧ w = w' := by
  have c := Lib.hid (idxbad_any v n L w h hn)
  obtain ⟨sa, cap, rfl, hnc, hcm⟩ := h.len
  clear h
  generalize L.any badB = b at *
  go_enter Try.func99, Try.ntmps99
  go_wp2_with fail
  refine Calls.mono c.out ?_
  rintro e w2 ⟨r, rfl, hr, rfl⟩
  dsimp only
  go_wp2_with fail
  go_ret
  exact ⟨rfl, rfl⟩
theorem bsz_any (v : Value) (n : Nat) (L : List Int) (w : World) (h : NB w .i64 v n L) (hn : n ≤ 1000000) :
    Calls Try.prog 69 #[v] w fun e w' => e = .returned (.bool (!(L.any badB))) ∧ w = w' := by
  have c := Lib.hid (hasbad_any v n L w h hn)
  obtain ⟨sa, cap, rfl, hnc, hcm⟩ := h.len
  clear h
  generalize L.any badB = b at *
  go_enter Try.func69, Try.ntmps69
  go_wp2_with fail
  refine Calls.mono c.out ?_
  rintro e w2 ⟨rfl, rfl⟩
  dsimp only
  go_wp2_with fail
  go_ret
  exact ⟨rfl, rfl⟩
/-- A number's last byte. -/
def b8 (n : Int) : Nat := (n % 256).toNat
theorem b8_lt (n : Int) : b8 n < 256 := by unfold b8; omega
theorem b8_int (n : Int) : n % 256 = (b8 n : Nat) := by unfold b8; omega
theorem u8_wrap (n : Int) : IntKind.u8.wrap n = n % 256 := by
  simp only [IntKind.wrap, IntKind.signed, IntKind.bits, IntKind.min, IntKind.max] <;> simp
theorem b8_byt (L : List Int) : ByL (L.map b8) := fun x hx => by
  obtain ⟨n, _, rfl⟩ := List.mem_map.1 hx
  exact b8_lt n
set_option maxRecDepth 100000 in
set_option maxHeartbeats 8000000 in
theorem bytesOf_any (v : Value) (n : Nat) (L : List Int) (w : World) (h : NB w .i64 v n L) (hn : n ≤ 1000000) :
    Calls Try.prog 63 #[v] w fun e w' => ∃ u, e = .returned u ∧ OB w' w.heap.size 5 u n (L.map b8) ∧ BW w w' := by
  obtain ⟨sa, cap, rfl, hnc, hcm⟩ := h.len
  unfold maxLen at hcm
  have hQ := Lib.hid h
  have hdl := Lib.hid h.1
  clear h
  go_enter Try.func63, Try.ntmps63
  go_upto_region 3 with (fail)
  go_loopg [3, 8] n (fun m' s i wx => ∃ (k : Nat) (so : Option Addr) (co : Nat), m' = n - k ∧ k ≤ n ∧ s = .slice so k co ∧ co ≤ 9223372036854775807 ∧ i = .int .i64 (k : Nat) ∧ Hid (OB wx w.heap.size 5 (.slice so k co) k ((L.take k).map b8)) ∧ Hid (BW w wx))
  case atStart => exact ⟨0, none, 0, rfl, by omega, rfl, by omega, rfl, OB.nil _ _ _, BW.refl _⟩
  case round =>
    obtain ⟨k, so, co, rfl, hk, rfl, hco, rfl, O, B⟩ := hrel
    by_cases hkn : k < n
    · have d : decide ((k : Int) < (n : Int)) = true := by simp; omega
      have hkL : k < L.length := by rw [hdl.out]; exact hkn
      obtain ⟨b, o, cap', he, _, _, _, hc⟩ := (hQ.out.bw B.out).form (by omega)
      cases he
      have z := hc k hkn
      have htk : (L.take (k + 1)).map b8 = (L.take k).map b8 ++ [b8 (L.getD k 0)] := by
        rw [List.take_succ_eq_append_getElem hkL, List.map_append, List.getD_eq_getElem?_getD, List.getElem?_eq_getElem hkL]; rfl
      clear hc
      generalize L.getD k 0 = t at *
      have q := u8_wrap t
      have hi := b8_int t
      have hl8 := b8_lt t
      rw [hi] at q
      generalize b8 t = x at *
      replace htk := Lib.hid htk
      obtain ⟨wq, rfl⟩ : ∃ y, y = wr := ⟨_, rfl⟩
      go_upto_region 5 with (fail)
      have BA : BW wq (wq.alloc (.cells #[.int .u8 (x : Nat)] 5)) := (BW.refl _).alloc
      have S3 : Hid (SB (wq.alloc (.cells #[.int .u8 (x : Nat)] 5)) (.slice (some ⟨wq.heap.size, 0, none⟩) 1 1) 1 [x]) := Lib.hid (OB.new wq 0 [x] 1 (Nat.zero_le _) rfl (by decide) (fun y hy => by simp at hy; omega)).sb
      have O3 := Lib.hid (O.out.bw BA)
      have B3 := Lib.hid (B.out.trans BA)
      have hz3 := B3.out.size
      clear O B
      replace BA := Lib.hid BA
      go_wp2_with (at_builtin; go_must (refine wpList_apOB rfl _ _ rfl w.heap.size _ k _ rfl O3.out _ rfl 1 _ S3.out (by omega) hz3 ?_; intro s4 c4 w4 hc4 hm4 O4 T4 B4 G4; unfold maxLen at hm4; replace O4 := Lib.hid O4; replace T4 := Lib.hid T4; clear G4 B4))
      have B5 := Lib.hid (BW.stP B3.out T4.out (fun j hj => O3.out.ge' j (Option.mem_toList.1 hj)))
      rw [← htk.out] at O4
      clear O3 B3 S3 T4 d z q hi
      go_wp2_with fail
      go_roundg (n - (k + 1))
      case measure => omega
      case rel => exact ⟨k + 1, s4, c4, rfl, by omega, rfl, hm4, by push_cast; rfl, O4, B5⟩
    · obtain rfl : k = n := by omega
      have d : decide ((k : Int) < (k : Int)) = false := by simp
      rw [List.take_of_length_le (by rw [hdl.out]; exact Nat.le_refl _)] at O
      go_wp2_with fail
      go_ret
      exact ⟨_, rfl, O.out, B.out⟩
end Go.Proofs.Ytcempndfbckcaaa

namespace Go.Proofs.Ytcempndfbckcaaa
open Go.RowKit

/-- Bytes, and their tag. -/
def tagB (key l : List Nat) : List Nat := l ++ (hmacN key l).take 10
theorem tagB_len (key l : List Nat) : (tagB key l).length = l.length + 10 := by
  unfold tagB
  rw [List.length_append, List.length_take, hmac_len]
  omega
set_option maxRecDepth 100000 in
set_option maxHeartbeats 8000000 in
theorem tagged_any (sb : Option Addr) (n cb : Nat) (l : List Nat) (sk : Option Addr) (nk ck : Nat) (key : List Nat) (w : World) (h : SB w (.slice sb n cb) n l) (hk : SB w (.slice sk nk ck) nk key) (hn : n ≤ 1000000) (hnk : nk ≤ 1000000) :
    Calls Try.prog 64 #[.slice sb n cb, .slice sk nk ck] w fun e w' => ∃ u, e = .returned u ∧ OB w' w.heap.size 5 u (n + 10) (tagB key l) ∧ BW w w' := by
  have hl := h.1
  obtain ⟨_, _, he, hc1, hc2⟩ := h.len
  cases he
  obtain ⟨_, _, he, hk1, hk2⟩ := hk.len
  cases he
  unfold maxLen at hc2 hk2
  have B1 : BW w (w.alloc (.cells #[.slice sb n cb] 36)) := (BW.refl _).alloc
  have M1 := SM.one w _ _ _ h
  have cT := Lib.hid (tag_ok sk nk ck _ 1 1 10 key [l] (by decide) (by decide) (by omega) (by decide) (by simp; omega) _ (hk.bw B1) M1)
  simp only [List.flatten_cons, List.flatten_nil, List.append_nil, show (10 : Int).toNat = 10 from rfl, show min 10 20 = 10 from rfl] at cT
  have hS := Lib.hid h
  have htl : (tagB key l).length = n + 10 := by rw [tagB_len, hl]
  have hfl : ([l, (hmacN key l).take 10] : List (List Nat)).flatten = tagB key l := by simp [tagB]
  generalize hT : (hmacN key l).take 10 = T at *
  clear h hk M1
  replace htl := Lib.hid htl
  replace hfl := Lib.hid hfl
  replace hT := Lib.hid hT
  replace B1 := Lib.hid B1
  go_enter Try.func64, Try.ntmps64
  go_wp2_with fail
  refine Calls.mono cT.out ?_
  rintro e w2 ⟨v2, rfl, O2, hb⟩
  have hT2 := hT.out
  have B2 := Lib.hid (B1.out.trans hb)
  obtain ⟨s2, c2, rfl, hc3, hc4⟩ := O2.len
  unfold maxLen at hc4
  have M2 := SM.two w2 _ _ _ _ _ _ (hS.out.bw B2.out) O2.sb
  have B3 : BW w2 (w2.alloc (.cells #[.slice sb n cb, .slice s2 10 c2] 36)) := (BW.refl _).alloc
  have cC := Lib.hid (concat_ok _ 2 [l, T] (by rw [hfl.out, htl.out]; omega) _ M2)
  rw [hfl.out, htl.out] at cC
  have B4 := Lib.hid (B2.out.trans B3)
  clear M2 O2 hb B1 B2 B3 cT hT2
  dsimp only
  go_wp2_with fail
  refine Calls.mono cC.out ?_
  rintro e w3 ⟨v3, rfl, O3, hb⟩
  have O4 := Lib.hid (O3.up B4.out.size)
  have B5 := Lib.hid (B4.out.trans hb)
  obtain ⟨s3, c3, rfl, _, _⟩ := O3.len
  clear O3 hb cC
  dsimp only
  go_wp2_with fail
  go_ret
  exact ⟨_, rfl, O4.out, B5.out⟩
end Go.Proofs.Ytcempndfbckcaaa

namespace Go.Proofs.Ytcempndfbckcaaa
open Go.RowKit

theorem still_st8 (w : World) (z : Nat) (v0 v1 v2 v3 v4 v5 v6 v7 : Value) : Still [z] w ((((((((w.setCell ⟨z, 0, none⟩ v0).setCell ⟨z, 1, none⟩ v1).setCell ⟨z, 2, none⟩ v2).setCell ⟨z, 3, none⟩ v3).setCell ⟨z, 4, none⟩ v4).setCell ⟨z, 5, none⟩ v5).setCell ⟨z, 6, none⟩ v6).setCell ⟨z, 7, none⟩ v7) := ((((((((still_sc w z 0 v0).trans (still_sc _ z 1 v1)).trans (still_sc _ z 2 v2)).trans (still_sc _ z 3 v3)).trans (still_sc _ z 4 v4)).trans (still_sc _ z 5 v5)).trans (still_sc _ z 6 v6)).trans (still_sc _ z 7 v7))
theorem st8_arr (c : Array Value) (hc : c.size = 8) (v0 v1 v2 v3 v4 v5 v6 v7 : Value) : ((((((((c.setIfInBounds 0 v0).setIfInBounds 1 v1).setIfInBounds 2 v2).setIfInBounds 3 v3).setIfInBounds 4 v4).setIfInBounds 5 v5).setIfInBounds 6 v6).setIfInBounds 7 v7) = #[v0, v1, v2, v3, v4, v5, v6, v7] := by
  obtain ⟨l⟩ := c
  match l, hc with
  | [_, _, _, _, _, _, _, _], _ => simp only [List.setIfInBounds_toArray, List.set_cons_zero, List.set_cons_succ]
theorem HpB.st8 {w : World} {z : Nat} {c : Array Value} {T : TypeId} (h : HpB w z (.cells c T)) (hc : c.size = 8) (v0 v1 v2 v3 v4 v5 v6 v7 : Value) : HpB ((((((((w.setCell ⟨z, 0, none⟩ v0).setCell ⟨z, 1, none⟩ v1).setCell ⟨z, 2, none⟩ v2).setCell ⟨z, 3, none⟩ v3).setCell ⟨z, 4, none⟩ v4).setCell ⟨z, 5, none⟩ v5).setCell ⟨z, 6, none⟩ v6).setCell ⟨z, 7, none⟩ v7) z (.cells #[v0, v1, v2, v3, v4, v5, v6, v7] T) := by
  have k := (hp_set (hp_set (hp_set (hp_set (hp_set (hp_set (hp_set (hp_set h 0 v0) 1 v1) 2 v2) 3 v3) 4 v4) 5 v5) 6 v6) 7 v7)
  rw [st8_arr c hc] at k
  exact k
structure FrD where
  kind : Int
  seat : Int
  nonce : Nat
  room : Int
  track : Int
  owner : Int
  layer : Int
  srcs : List Nat
def nzl (l : List Nat) : List Int := l.map fun (n : Nat) => (n : Int)
def frC (k s : Int) (n : Nat) (r t o l : Int) (sv : Value) : Array Value := #[.int .i64 k, .int .i64 s, .int .u64 (n : Nat), .int .i64 r, .int .i64 t, .int .i64 o, .int .i64 l, sv]
/-- A frame as a value that is read. -/
def FrV (w : World) (c : Array Value) (d : FrD) : Prop := ∃ sv, c = frC d.kind d.seat d.nonce d.room d.track d.owner d.layer sv ∧ NB w .u32 sv d.srcs.length (nzl d.srcs)
theorem FrV.bw {w w' : World} {c : Array Value} {d : FrD} (h : FrV w c d) (hb : BW w w') : FrV w' c d := by
  obtain ⟨sv, e, h1⟩ := h
  exact ⟨sv, e, h1.bw hb⟩
theorem FrV.open {w : World} {c : Array Value} {d : FrD} (h : FrV w c d) : ∃ ss cs, c = frC d.kind d.seat d.nonce d.room d.track d.owner d.layer (.slice ss d.srcs.length cs) ∧ NB w .u32 (.slice ss d.srcs.length cs) d.srcs.length (nzl d.srcs) ∧ d.srcs.length ≤ cs ∧ cs ≤ 9223372036854775807 := by
  obtain ⟨sv, e, h1⟩ := h
  obtain ⟨ss, cs, rfl, a, b⟩ := h1.len
  exact ⟨ss, cs, e, h1, a, b⟩
def I64 (n : Int) : Prop := -9223372036854775808 ≤ n ∧ n ≤ 9223372036854775807
structure FrWf (d : FrD) : Prop where
  kind : I64 d.kind
  seat : I64 d.seat
  nonce : d.nonce < 18446744073709551616
  room : I64 d.room
  track : I64 d.track
  owner : I64 d.owner
  layer : I64 d.layer
  srcs : ∀ x ∈ d.srcs, x < 4294967296
def mayF (d : FrD) : Bool := decide (1 ≤ d.kind) && decide (d.kind ≤ 8) && !([d.seat, d.room, d.track, d.owner, max d.layer 0].any badB) && decide (-1 ≤ d.layer) && decide (d.srcs.length ≤ 16)
theorem NB.newL (w : World) (T : TypeId) (k : IntKind) (L : List Int) (n : Nat) (hl : L.length = n) (hn : n ≤ maxLen) : NB (w.alloc (.cells (nvs k L).toArray T)) k (.slice (some ⟨w.heap.size, 0, none⟩) n n) n L :=
  ⟨hl, by rw [nvs_len]; omega, hn, .inr ⟨w.heap.size, 0, n, rfl, Nat.le_refl _, hn, by simp, fun j hj => by
    rw [Nat.zero_add, hp_cell (hp_new w _ _ rfl) j, List.getElem?_toArray]⟩⟩
set_option maxRecDepth 100000 in
set_option maxHeartbeats 8000000 in
theorem may_any (c : Array Value) (d : FrD) (w : World) (h : FrV w c d) : Calls Try.prog 61 #[.agg c] w fun e w' => e = .returned (.bool (mayF d)) ∧ BW w w' := by
  obtain ⟨ss, cs, rfl, -, hsc, hsm⟩ := h.open
  have hM : mayF d = (decide (1 ≤ d.kind) && decide (d.kind ≤ 8) && !([d.seat, d.room, d.track, d.owner, max d.layer 0].any badB) && decide (-1 ≤ d.layer) && decide (d.srcs.length ≤ 16)) := rfl
  generalize mayF d = M at *
  generalize d.srcs.length = n at *
  obtain ⟨k, s, nc, r, t, o, l, L⟩ := d
  clear h
  simp only [frC] at *
  have B1 : BW w (w.alloc (.cells #[.int .i64 k, .int .i64 s, .int .u64 (nc : Nat), .int .i64 r, .int .i64 t, .int .i64 o, .int .i64 l, .slice ss n cs] 35)) := (BW.refl w).alloc
  have P1 := Lib.hid (HpB.new w (.cells #[.int .i64 k, .int .i64 s, .int .u64 (nc : Nat), .int .i64 r, .int .i64 t, .int .i64 o, .int .i64 l, .slice ss n cs] 35))
  replace hM := Lib.hid hM
  replace B1 := Lib.hid B1
  go_enter Try.func61, Try.ntmps61
  go_upto_region 1 with (fail)
  generalize w.alloc (.cells #[.int .i64 k, .int .i64 s, .int .u64 (nc : Nat), .int .i64 r, .int .i64 t, .int .i64 o, .int .i64 l, .slice ss n cs] 35) = w1 at *
  generalize w.heap.size = g at *
  have z0 := hp_cell (P1.out) 0
  have z1 := hp_cell (P1.out) 1
  have z2 := hp_cell (P1.out) 2
  have z3 := hp_cell (P1.out) 3
  have z4 := hp_cell (P1.out) 4
  have z5 := hp_cell (P1.out) 5
  have z6 := hp_cell (P1.out) 6
  have z7 := hp_cell (P1.out) 7
  simp only [List.getElem?_toArray, List.getElem?_cons_zero, List.getElem?_cons_succ] at z0 z1 z2 z3 z4 z5 z6 z7
  by_cases h1 : 1 ≤ k
  · have d1 : decide (1 ≤ k) = true := by simpa using h1
    by_cases h2 : k ≤ 8
    · have d2 : decide (k ≤ 8) = true := by simpa using h2
      by_cases h0 : 0 ≤ l
      · have hN := NB.newL w1 3 .i64 [s, r, t, o, l] 5 rfl (by decide)
        have cB := Lib.hid (bsz_any _ 5 _ _ hN (by decide))
        have BA : BW w1 (w1.alloc (.cells (nvs .i64 [s, r, t, o, l]).toArray 3)) := (BW.refl _).alloc
        have P2 := P1.out.bw BA
        have B2 := B1.out.trans BA
        simp only [nvs, List.map_cons, List.map_nil] at cB B2 P2
        have hM2 := hM.out
        rw [show max l 0 = l by omega, decide_eq_true h1, decide_eq_true h2, Bool.true_and, Bool.true_and] at hM2
        clear hN BA
        generalize [s, r, t, o, l].any badB = bb at *
        generalize hw2 : w1.alloc (.cells [Value.int .i64 s, .int .i64 r, .int .i64 t, .int .i64 o, .int .i64 l].toArray 3) = w2 at *
        replace B2 := Lib.hid B2
        replace hM2 := Lib.hid hM2
        go_wp2_with fail
        refine Calls.mono cB.out ?_
        rintro e w3 ⟨rfl, rfl⟩
        clear cB hw2
        clear z0 z1 z2 z3 z4 z5 z6 z7
        have z0 := hp_cell (P2) 0
        have z1 := hp_cell (P2) 1
        have z2 := hp_cell (P2) 2
        have z3 := hp_cell (P2) 3
        have z4 := hp_cell (P2) 4
        have z5 := hp_cell (P2) 5
        have z6 := hp_cell (P2) 6
        have z7 := hp_cell (P2) 7
        simp only [List.getElem?_toArray, List.getElem?_cons_zero, List.getElem?_cons_succ] at z0 z1 z2 z3 z4 z5 z6 z7
        dsimp only
        cases bb with
        | true =>
          obtain rfl : M = false := hM2.out
          simp only [Bool.not_true]
          go_wp2_with fail
          go_ret
          exact ⟨rfl, B2.out⟩
        | false =>
          have hM3 : Hid (M = (decide (-1 ≤ l) && decide (n ≤ 16))) := hM2.out
          simp only [Bool.not_false]
          by_cases h3 : -1 ≤ l
          · have d3 : decide (-1 ≤ l) = true := decide_eq_true h3
            obtain ⟨R4, hR4⟩ : ∃ R4, R4 = decide (n ≤ 16) := ⟨_, rfl⟩
            have d4 : decide ((n : Int) ≤ 16) = R4 := by rw [hR4]; exact decide_eq_decide.2 (by omega)
            obtain rfl : M = R4 := by rw [hM3.out, d3, Bool.true_and, hR4]
            clear hR4
            go_wp2_with fail
            go_ret
            exact ⟨rfl, B2.out⟩
          · exact absurd (show -1 ≤ l by omega) h3
      · have hN := NB.newL w1 3 .i64 [s, r, t, o, 0] 5 rfl (by decide)
        have cB := Lib.hid (bsz_any _ 5 _ _ hN (by decide))
        have BA : BW w1 (w1.alloc (.cells (nvs .i64 [s, r, t, o, 0]).toArray 3)) := (BW.refl _).alloc
        have P2 := P1.out.bw BA
        have B2 := B1.out.trans BA
        simp only [nvs, List.map_cons, List.map_nil] at cB B2 P2
        have hM2 := hM.out
        rw [show max l 0 = 0 by omega, decide_eq_true h1, decide_eq_true h2, Bool.true_and, Bool.true_and] at hM2
        clear hN BA
        generalize [s, r, t, o, 0].any badB = bb at *
        generalize hw2 : w1.alloc (.cells [Value.int .i64 s, .int .i64 r, .int .i64 t, .int .i64 o, .int .i64 0].toArray 3) = w2 at *
        replace B2 := Lib.hid B2
        replace hM2 := Lib.hid hM2
        go_wp2_with fail
        refine Calls.mono cB.out ?_
        rintro e w3 ⟨rfl, rfl⟩
        clear cB hw2
        clear z0 z1 z2 z3 z4 z5 z6 z7
        have z0 := hp_cell (P2) 0
        have z1 := hp_cell (P2) 1
        have z2 := hp_cell (P2) 2
        have z3 := hp_cell (P2) 3
        have z4 := hp_cell (P2) 4
        have z5 := hp_cell (P2) 5
        have z6 := hp_cell (P2) 6
        have z7 := hp_cell (P2) 7
        simp only [List.getElem?_toArray, List.getElem?_cons_zero, List.getElem?_cons_succ] at z0 z1 z2 z3 z4 z5 z6 z7
        dsimp only
        cases bb with
        | true =>
          obtain rfl : M = false := hM2.out
          simp only [Bool.not_true]
          go_wp2_with fail
          go_ret
          exact ⟨rfl, B2.out⟩
        | false =>
          have hM3 : Hid (M = (decide (-1 ≤ l) && decide (n ≤ 16))) := hM2.out
          simp only [Bool.not_false]
          by_cases h3 : -1 ≤ l
          · have d3 : decide (-1 ≤ l) = true := decide_eq_true h3
            obtain ⟨R4, hR4⟩ : ∃ R4, R4 = decide (n ≤ 16) := ⟨_, rfl⟩
            have d4 : decide ((n : Int) ≤ 16) = R4 := by rw [hR4]; exact decide_eq_decide.2 (by omega)
            obtain rfl : M = R4 := by rw [hM3.out, d3, Bool.true_and, hR4]
            clear hR4
            go_wp2_with fail
            go_ret
            exact ⟨rfl, B2.out⟩
          · have d3 : decide (-1 ≤ l) = false := decide_eq_false h3
            obtain rfl : M = false := by rw [hM3.out, d3, Bool.false_and]
            go_wp2_with fail
            go_ret
            exact ⟨rfl, B2.out⟩
    · have d2 : decide (k ≤ 8) = false := by simpa using h2
      obtain rfl : M = false := by rw [hM.out, d2]; simp
      go_wp2_with fail
      go_ret
      exact ⟨rfl, B1.out⟩
  · have d1 : decide (1 ≤ k) = false := by simpa using h1
    obtain rfl : M = false := by rw [hM.out, d1]; simp
    go_wp2_with fail
    go_ret
    exact ⟨rfl, B1.out⟩
end Go.Proofs.Ytcempndfbckcaaa

namespace Go.Proofs.Ytcempndfbckcaaa
open Go.RowKit

def othF (l : List Nat) : List Nat := l.flatMap (putB 4)
theorem othF_len (l : List Nat) : (othF l).length = 4 * l.length := by
  induction l with
  | nil => rfl
  | cons x l ih => simp [othF, putB_len] at ih ⊢; omega
theorem othF_snoc {l : List Nat} {k : Nat} (h : k < l.length) : othF (l.take (k + 1)) = othF (l.take k) ++ putB 4 (l.getD k 0) := by
  rw [List.take_succ_eq_append_getElem h, List.getD_eq_getElem?_getD, List.getElem?_eq_getElem h]
  unfold othF
  rw [List.flatMap_append, List.flatMap_singleton]; rfl
/-- A frame's bytes ahead of its sources. -/
def frHead (d : FrD) : List Nat := ([d.kind, d.seat].map b8 ++ putB 8 d.nonce) ++ [d.room, d.track, d.owner, d.layer, (d.srcs.length : Int)].map b8
def frBody (d : FrD) : List Nat := frHead d ++ othF d.srcs
def frN (key : List Nat) (d : FrD) : List Nat := tagB key (frBody d)
theorem frHead_len (d : FrD) : (frHead d).length = 15 := by simp [frHead, putB_len]
theorem frBody_len (d : FrD) : (frBody d).length = 15 + 4 * d.srcs.length := by unfold frBody; rw [List.length_append, frHead_len, othF_len]
theorem frN_len (key : List Nat) (d : FrD) : (frN key d).length = 25 + 4 * d.srcs.length := by unfold frN; rw [tagB_len, frBody_len]; omega
theorem nzl_get {l : List Nat} (k : Nat) : (nzl l).getD k 0 = (l.getD k 0 : Nat) := by
  unfold nzl
  rw [List.getD_eq_getElem?_getD, List.getD_eq_getElem?_getD, List.getElem?_map]
  cases l[k]? <;> rfl
def FrWPost (key : List Nat) (d : FrD) (w : World) (e : Ending) (w' : World) : Prop :=
  ((mayF d = true ∧ ∃ v, e = .returned (.tuple #[v, .int .i64 0]) ∧ OB w' w.heap.size 5 v (frN key d).length (frN key d)) ∨ (mayF d = false ∧ e = .returned (.tuple #[.slice none 0 0, .int .i64 1]))) ∧ BW w w'
set_option maxRecDepth 100000 in
set_option maxHeartbeats 8000000 in
theorem frWrite_any (c : Array Value) (d : FrD) (sk : Option Addr) (nk ck : Nat) (key : List Nat) (w : World) (h : FrV w c d) (wf : FrWf d) (hk : SB w (.slice sk nk ck) nk key) (hnk : nk ≤ 1000000) :
    Calls Try.prog 23 #[.agg c, .slice sk nk ck] w (FrWPost key d w) := by
  unfold FrWPost
  obtain ⟨ss, cs, rfl, hS, hsc, hsm⟩ := h.open
  have cM := fun wz (hb : BW w wz) => Lib.hid (may_any _ d wz (h.bw hb))
  have hln : mayF d = true → d.srcs.length ≤ 16 := fun h => by
    unfold mayF at h
    rw [Bool.and_eq_true] at h
    exact of_decide_eq_true h.2
  have hN : frN key d = tagB key (frHead d ++ othF d.srcs) := rfl
  have hNl := frN_len key d
  have hH : frHead d = ([d.kind, d.seat].map b8 ++ putB 8 d.nonce) ++ [d.room, d.track, d.owner, d.layer, (d.srcs.length : Int)].map b8 := rfl
  have hHl := frHead_len d
  have hnc := wf.nonce
  have hsr := wf.srcs
  obtain ⟨_, _, he, hkc, hkm⟩ := hk.len
  cases he
  unfold maxLen at hkm
  obtain ⟨M, hM⟩ : ∃ M, mayF d = M := ⟨_, rfl⟩
  simp only [hM] at cM hln
  generalize frN key d = N at *
  generalize frHead d = H at *
  obtain ⟨k, s, nc, r, t, o, l, L⟩ := d
  dsimp only at *
  generalize hLn : L.length = n at *
  simp only [frC] at *
  have B1 : Hid (BW w (w.alloc (.cells #[.int .i64 k, .int .i64 s, .int .u64 (nc : Nat), .int .i64 r, .int .i64 t, .int .i64 o, .int .i64 l, .slice ss n cs] 35))) := (BW.refl w).alloc
  have P1 := Lib.hid (HpB.new w (.cells #[.int .i64 k, .int .i64 s, .int .u64 (nc : Nat), .int .i64 r, .int .i64 t, .int .i64 o, .int .i64 l, .slice ss n cs] 35))
  clear h wf
  replace hM := Lib.hid hM
  replace hN := Lib.hid hN
  replace hNl := Lib.hid hNl
  replace hH := Lib.hid hH
  replace hHl := Lib.hid hHl
  replace hsr := Lib.hid hsr
  replace hLn := Lib.hid hLn
  replace hS := Lib.hid hS
  replace hk := Lib.hid hk
  go_enter Try.func23, Try.ntmps23
  go_upto_region 1 with (fail)
  generalize w.alloc (.cells #[.int .i64 k, .int .i64 s, .int .u64 (nc : Nat), .int .i64 r, .int .i64 t, .int .i64 o, .int .i64 l, .slice ss n cs] 35) = w1 at *
  generalize hg : w.heap.size = g at *
  have z0 := hp_cell (P1.out) 0
  have z1 := hp_cell (P1.out) 1
  have z2 := hp_cell (P1.out) 2
  have z3 := hp_cell (P1.out) 3
  have z4 := hp_cell (P1.out) 4
  have z5 := hp_cell (P1.out) 5
  have z6 := hp_cell (P1.out) 6
  have z7 := hp_cell (P1.out) 7
  simp only [List.getElem?_toArray, List.getElem?_cons_zero, List.getElem?_cons_succ] at z0 z1 z2 z3 z4 z5 z6 z7
  have cM1 := cM w1 B1.out
  clear cM
  go_wp2_with fail
  refine Calls.mono cM1.out ?_
  rintro e w2 ⟨rfl, hb⟩
  have B2 := Lib.hid (B1.out.trans hb)
  have P2 := Lib.hid (P1.out.bw hb)
  have B2z := B2.out.size
  have hgl : g < w2.heap.size := P2.out.lt
  clear z0 z1 z2 z3 z4 z5 z6 z7
  clear cM1 hb P1 B1
  dsimp only
  cases M with
  | false =>
    go_wp2_with fail
    go_ret2
    exact ⟨.inr ⟨hM.out, rfl⟩, B2.out⟩
  | true =>
    replace hln := hln rfl
    go_upto_region 3 with (fail)
    have z0 := hp_cell (P2.out) 0
    have z1 := hp_cell (P2.out) 1
    have z2 := hp_cell (P2.out) 2
    have z3 := hp_cell (P2.out) 3
    have z4 := hp_cell (P2.out) 4
    have z5 := hp_cell (P2.out) 5
    have z6 := hp_cell (P2.out) 6
    have z7 := hp_cell (P2.out) 7
    simp only [List.getElem?_toArray, List.getElem?_cons_zero, List.getElem?_cons_succ] at z0 z1 z2 z3 z4 z5 z6 z7
    have l0 : ∀ y : LaterS [] w2, _ := fun y => y.bw.cell z0
    have l1 : ∀ y : LaterS [] w2, _ := fun y => y.bw.cell z1
    have l2 : ∀ y : LaterS [] w2, _ := fun y => y.bw.cell z2
    clear z0 z1 z2 z3 z4 z5 z6 z7
    refine wp_region_gg [] [] [] (by kernel_rfl) ?_
    refine hoist [] [] (a1 := ?_) 0 rfl (by kernel_rfl) (.inl ⟨rfl, rfl⟩) rfl rfl rfl (fun x K hK => ?_) ?_
    rotate_left
    · go_big_quiet_op
      exact hK
    refine hoist [] [] (a1 := ?_) 1 rfl (by kernel_rfl) (.inl ⟨rfl, rfl⟩) rfl rfl rfl (fun x K hK => ?_) ?_
    rotate_left
    · go_big_quiet_op
      exact hK
    refine hoist [] [] (a1 := ?_) 2 rfl (by kernel_rfl) (.inl ⟨rfl, rfl⟩) rfl rfl rfl (fun x K hK => ?_) ?_
    rotate_left
    · go_big_quiet_op
      exact hK
    refine hoist [] [] (a1 := ?_) 3 rfl (by kernel_rfl) (.inl ⟨rfl, rfl⟩) rfl rfl rfl (fun x K hK => ?_) ?_
    rotate_left
    · go_big_quiet_op
      exact hK
    refine hoist [] [] (a1 := ?_) 6 rfl (by kernel_rfl) (.inl ⟨rfl, rfl⟩) rfl rfl rfl (fun x K hK => ?_) ?_
    rotate_left
    · go_big_quiet_op
      exact hK
    refine hoist [] [] (a1 := ?_) 7 rfl (by kernel_rfl) (.inl ⟨rfl, rfl⟩) rfl rfl rfl (fun x K hK => ?_) ?_
    rotate_left
    · go_big_quiet_op
      exact hK
    refine effect 4 rfl (by kernel_rfl) (by kernel_rfl) rfl (fun x4 K hK => ?_)
    go_simp
    refine hK _ _ (Still.of_below ((Below.refl _ _).alloc (Nat.le_refl _) _)) ?_
    clear hK K
    have N4 := Lib.hid (NB.newL x4.now 3 .i64 [k, s] 2 rfl (by decide))
    have B4 : Hid (BW w2 (x4.now.alloc (.cells (nvs .i64 [k, s]).toArray 3))) := x4.bw.alloc
    simp only [nvs, List.map_cons, List.map_nil] at N4 B4
    generalize x4.now.alloc (.cells [Value.int .i64 k, .int .i64 s].toArray 3) = w4 at *
    generalize x4.now.heap.size = g4 at *
    try simp only [Act.put, List.setIfInBounds_toArray, List.set_cons_succ, List.set_cons_zero]
    refine effect 5 rfl (by kernel_rfl) (by kernel_rfl) rfl (fun x5 K hK => ?_)
    go_simp
    refine Calls.mono (bytesOf_any _ 2 [k, s] x5.now (N4.out.bw x5.bw) (by decide)) ?_
    rintro e w5 ⟨v5, rfl, O5, hb⟩
    obtain ⟨s5, c5, rfl, _, _⟩ := O5.len
    refine hK _ _ (Still.of_below hb) ?_
    clear hK K
    have B5 := Lib.hid ((B4.out.trans x5.bw).trans hb)
    have S5 := Lib.hid O5.sb
    clear hb O5 N4 B4
    try simp only [Act.put, List.setIfInBounds_toArray, List.set_cons_succ, List.set_cons_zero]
    refine effect 8 rfl (by kernel_rfl) (by kernel_rfl) rfl (fun x8 K hK => ?_)
    go_simp
    refine Calls.mono (put_ok _ 2 ([k, s].map b8) 8 nc 8 (by decide) (by decide) rfl hnc (by decide) x8.now (S5.out.bw x8.bw)) ?_
    rintro e w6 ⟨v6, rfl, O6, hb⟩
    obtain ⟨s6, c6, rfl, hc6, hm6⟩ := O6.len
    unfold maxLen at hm6
    refine hK _ _ (Still.of_below hb) ?_
    clear hK K
    have B6 := Lib.hid ((B5.out.trans x8.bw).trans hb)
    have O7 := Lib.hid (O6.up (B5.out.trans x8.bw).size)
    clear hb O6 S5 B5
    try simp only [Act.put, List.setIfInBounds_toArray, List.set_cons_succ, List.set_cons_zero]
    refine hoist [] [] (a1 := ?_) 9 rfl (by kernel_rfl) (.inl ⟨rfl, rfl⟩) rfl rfl rfl (fun x K hK => ?_) ?_
    rotate_left
    · go_big_quiet_op
      exact hK
    refine done (by kernel_rfl) (fun xr => ?_)
    have B8 := Lib.hid (B6.out.trans xr.bw)
    have O8 := Lib.hid (O7.out.bw xr.bw)
    have P8 := Lib.hid (P2.out.bw B8.out)
    clear B6 O7 l0 l1 l2
    generalize xr.now = w8 at *
    go_upto_region 4 with (fail)
    have z0 := hp_cell (P8.out) 0
    have z1 := hp_cell (P8.out) 1
    have z2 := hp_cell (P8.out) 2
    have z3 := hp_cell (P8.out) 3
    have z4 := hp_cell (P8.out) 4
    have z5 := hp_cell (P8.out) 5
    have z6 := hp_cell (P8.out) 6
    have z7 := hp_cell (P8.out) 7
    simp only [List.getElem?_toArray, List.getElem?_cons_zero, List.getElem?_cons_succ] at z0 z1 z2 z3 z4 z5 z6 z7
    have N9 := NB.newL w8 3 .i64 [r, t, o, l, (n : Int)] 5 rfl (by decide)
    have B9 : BW w8 (w8.alloc (.cells (nvs .i64 [r, t, o, l, (n : Int)]).toArray 3)) := (BW.refl _).alloc
    have cB := Lib.hid (bytesOf_any _ 5 _ _ N9 (by decide))
    simp only [nvs, List.map_cons, List.map_nil] at cB B9
    clear N9
    replace B9 := Lib.hid B9
    generalize hw9 : w8.alloc (.cells [Value.int .i64 r, .int .i64 t, .int .i64 o, .int .i64 l, .int .i64 (n : Int)].toArray 3) = w9 at *
    go_wp2_with fail
    refine Calls.mono cB.out ?_
    rintro e w10 ⟨v10, rfl, O10, hb⟩
    obtain ⟨s10, c10, rfl, hc10, hm10⟩ := O10.len
    have B10 := Lib.hid (B2.out.trans ((B8.out.trans B9.out).trans hb))
    have O11 := Lib.hid (O8.out.bw (B9.out.trans hb))
    have P10 := Lib.hid (P8.out.bw (B9.out.trans hb))
    have S10 := Lib.hid O10.sb
    have hz10 := B10.out.size
    have hz2 := ((B8.out.trans B9.out).trans hb).size
    clear z0 z1 z2 z3 z4 z5 z6 z7
    clear cB hw9 O10 O8 P8 B8 B9 hb B2 P2
    unfold maxLen at hm10
    dsimp only
    go_upto_region 5 with (at_builtin; go_must (refine wpList_apOB rfl _ _ rfl w2.heap.size _ 10 _ rfl O11.out _ rfl 5 _ S10.out (by omega) hz2 ?_; intro s12 c12 w12 hc12 hm12 O12 T12 B12 G12; unfold maxLen at hm12; replace O12 := Lib.hid O12; replace T12 := Lib.hid T12; clear G12 B12))
    have hO11 : ∀ j, (Value.slice s6 (2 + 8) c6).ownBlock = some j → w2.heap.size ≤ j := O11.out.ge'
    have B12 := Lib.hid (BW.stP B10.out T12.out (fun j hj => Nat.le_trans B2z (hO11 j (Option.mem_toList.1 hj))))
    have P12 := Lib.hid (P10.out.st T12.out (fun hm => by have := hO11 g (Option.mem_toList.1 hm); omega))
    have hH2 := hH.out
    simp only [List.map_cons, List.map_nil] at hH2 O12
    rw [← hH2] at O12
    clear hH2
    simp only [Nat.reduceAdd] at O12 hc12 ⊢
    clear O11 P10 B10 S10 T12 hO11 hz10 hz2
    have z0 := hp_cell (P12.out) 0
    have z1 := hp_cell (P12.out) 1
    have z2 := hp_cell (P12.out) 2
    have z3 := hp_cell (P12.out) 3
    have z4 := hp_cell (P12.out) 4
    have z5 := hp_cell (P12.out) 5
    have z6 := hp_cell (P12.out) 6
    have z7 := hp_cell (P12.out) 7
    simp only [List.getElem?_toArray, List.getElem?_cons_zero, List.getElem?_cons_succ] at z0 z1 z2 z3 z4 z5 z6 z7
    go_upto_region 6 with (fail)
    clear z0 z1 z2 z3 z4 z5 z6 z7
    go_loopg [6, 39] n (fun m' s i wx => ∃ (k : Nat) (so : Option Addr) (co : Nat), m' = n - k ∧ k ≤ n ∧ s = .slice so (15 + 4 * k) co ∧ 15 + 4 * k ≤ co ∧ co ≤ 9223372036854775807 ∧ i = .int .i64 (k : Nat) ∧ Hid (SB wx (.slice so (15 + 4 * k) co) (15 + 4 * k) (H ++ othF (L.take k))) ∧ Hid (BW w wx))
    case atStart => exact ⟨0, s12, c12, rfl, by omega, rfl, by omega, hm12, rfl, Lib.hid (by rw [List.take_zero]; simpa [othF] using O12.out.sb), B12⟩
    case round =>
      clear O12 B12 P12 hc12
      obtain ⟨k', so, co, rfl, hk', rfl, hco, hcm, rfl, O, B⟩ := hrel
      by_cases hkn : k' < n
      · have d : decide ((k' : Int) < (n : Int)) = true := by simp; omega
        have hkL : k' < L.length := by rw [hLn.out]; exact hkn
        obtain ⟨b, o', cap', he, _, _, _, hc⟩ := (hS.out.bw B.out).form (by omega)
        cases he
        have z := hc k' hkn
        rw [nzl_get] at z
        have hx : L.getD k' 0 < 4294967296 := by
          rw [List.getD_eq_getElem?_getD, List.getElem?_eq_getElem hkL]
          exact hsr.out _ (List.getElem_mem hkL)
        have hsn := othF_snoc hkL
        clear hc
        generalize L.getD k' 0 = x at *
        have cP := Lib.hid (put_ok _ _ _ 4 x 4 (by decide) (by decide) rfl (by omega) (by omega) wr O.out)
        have e4 : 15 + 4 * k' + 4 = 15 + 4 * (k' + 1) := by omega
        rw [List.append_assoc, ← hsn, e4] at cP
        replace e4 := Lib.hid e4
        replace hsn := Lib.hid hsn
        go_wp2_with fail
        refine Calls.mono cP.out ?_
        rintro e w13 ⟨v13, rfl, O13, hb⟩
        obtain ⟨s13, c13, rfl, hc13, hm13⟩ := O13.len
        have B13 := Lib.hid (B.out.trans hb)
        have S13 := Lib.hid O13.sb
        unfold maxLen at hm13
        clear cP O13 hb O B z d
        dsimp only
        go_wp2_with fail
        go_roundg (n - (k' + 1))
        case measure => omega
        case rel => exact ⟨k' + 1, s13, c13, rfl, by omega, rfl, hc13, hm13, by push_cast; rfl, S13, B13⟩
      · obtain rfl : k' = n := by omega
        have d : decide ((k' : Int) < (k' : Int)) = false := by simp
        rw [List.take_of_length_le (by rw [hLn.out]; exact Nat.le_refl _)] at O
        have cT := Lib.hid (tagged_any so _ co _ sk nk ck key wr O.out (hk.out.bw B.out) (by omega) hnk)
        rw [← hN.out] at cT
        have eN : 15 + 4 * k' + 10 = N.length := by rw [hNl.out]; omega
        rw [eN] at cT
        replace eN := Lib.hid eN
        clear O
        go_wp2_with fail
        refine Calls.mono cT.out ?_
        rintro e w14 ⟨v14, rfl, O14, hb⟩
        obtain ⟨s14, c14, rfl, _, _⟩ := O14.len
        have O15 := Lib.hid (O14.up B.out.size)
        have B15 := Lib.hid (B.out.trans hb)
        clear cT O14 hb B
        dsimp only
        go_wp2_with fail
        go_ret2
        exact ⟨.inl ⟨hM.out, _, rfl, O15.out⟩, B15.out⟩
end Go.Proofs.Ytcempndfbckcaaa

namespace Go.Proofs.Ytcempndfbckcaaa
open Go.RowKit

theorem small_any (n : Int) (w : World) : Calls Try.prog 65 #[.int .i64 n] w fun e w' => e = .returned (.bool (!(badB n))) ∧ w = w' := by
  by_cases h : 0 ≤ n
  · have d : decide (0 ≤ n) = true := decide_eq_true h
    have e : (!(badB n)) = decide (n ≤ 254) := by
      unfold badB
      rw [decide_eq_false (show ¬ n < 0 by omega), Bool.false_or, Bool.eq_iff_iff]
      simp; omega
    generalize (!(badB n)) = r at *
    subst e
    go_enter Try.func65, Try.ntmps65
    go_wp2_with fail
    go_ret
    exact ⟨rfl, rfl⟩
  · have d : decide (0 ≤ n) = false := decide_eq_false h
    have e : (!(badB n)) = false := by
      unfold badB
      rw [decide_eq_true (show n < 0 by omega)]; rfl
    generalize (!(badB n)) = r at *
    subst e
    go_enter Try.func65, Try.ntmps65
    go_wp2_with fail
    go_ret
    exact ⟨rfl, rfl⟩
def FrRWPost (key : List Nat) (d : FrD) (w : World) (e : Ending) (w' : World) : Prop :=
  ((mayF d = true ∧ ∃ v, e = .returned (.tuple #[v, .bool true]) ∧ OB w' w.heap.size 5 v (frN key d).length (frN key d)) ∨ (mayF d = false ∧ e = .returned (.tuple #[.slice none 0 0, .bool false]))) ∧ BW w w'
theorem badB_ok {n : Int} (h : badB n = false) : 0 ≤ n ∧ n ≤ 254 := by
  unfold badB at h
  rw [Bool.or_eq_false_iff] at h
  have h1 := of_decide_eq_false h.1
  have h2 := of_decide_eq_false h.2
  omega
theorem b8_nat {n : Nat} (h : n < 256) : b8 (n : Int) = n := by unfold b8; omega
set_option maxRecDepth 100000 in
set_option maxHeartbeats 8000000 in
theorem frRWrite_any (c : Array Value) (d : FrD) (sk : Option Addr) (nk ck : Nat) (key : List Nat) (w : World) (h : FrV w c d) (wf : FrWf d) (hk : SB w (.slice sk nk ck) nk key) (hnk : nk ≤ 1000000) :
    Calls Try.prog 24 #[.agg c, .slice sk nk ck] w (FrRWPost key d w) := by
  unfold FrRWPost
  obtain ⟨ss, cs, rfl, hS, hsc, hsm⟩ := h.open
  have hN : frN key d = tagB key (frHead d ++ othF d.srcs) := rfl
  have hNl := frN_len key d
  have hH : frHead d = ([d.kind, d.seat].map b8 ++ putB 8 d.nonce) ++ [d.room, d.track, d.owner, d.layer, (d.srcs.length : Int)].map b8 := rfl
  have hHl := frHead_len d
  have hnc := wf.nonce
  have hsr := wf.srcs
  have hMd : mayF d = (decide (1 ≤ d.kind) && decide (d.kind ≤ 8) && !([d.seat, d.room, d.track, d.owner, max d.layer 0].any badB) && decide (-1 ≤ d.layer) && decide (d.srcs.length ≤ 16)) := rfl
  obtain ⟨_, _, he, hkc, hkm⟩ := hk.len
  cases he
  unfold maxLen at hkm
  generalize frN key d = N at *
  generalize frHead d = H at *
  obtain ⟨k, s, nc, r, t, o, l, L⟩ := d
  dsimp only at *
  generalize hLn : L.length = n at *
  simp only [List.any_cons, List.any_nil, Bool.or_false] at hMd
  simp only [frC] at *
  have B1 : Hid (BW w (w.alloc (.cells #[.int .i64 k, .int .i64 s, .int .u64 (nc : Nat), .int .i64 r, .int .i64 t, .int .i64 o, .int .i64 l, .slice ss n cs] 35))) := (BW.refl w).alloc
  have P1 := Lib.hid (HpB.new w (.cells #[.int .i64 k, .int .i64 s, .int .u64 (nc : Nat), .int .i64 r, .int .i64 t, .int .i64 o, .int .i64 l, .slice ss n cs] 35))
  have cS := Lib.hid small_any
  clear h wf
  replace hMd := Lib.hid hMd
  replace hN := Lib.hid hN
  replace hNl := Lib.hid hNl
  replace hH := Lib.hid hH
  replace hHl := Lib.hid hHl
  replace hsr := Lib.hid hsr
  replace hLn := Lib.hid hLn
  replace hS := Lib.hid hS
  replace hk := Lib.hid hk
  go_enter Try.func24, Try.ntmps24
  go_upto_region 1 with (fail)
  generalize w.alloc (.cells #[.int .i64 k, .int .i64 s, .int .u64 (nc : Nat), .int .i64 r, .int .i64 t, .int .i64 o, .int .i64 l, .slice ss n cs] 35) = w1 at *
  generalize hg : w.heap.size = g at *
  have z0 := hp_cell (P1.out) 0
  have z1 := hp_cell (P1.out) 1
  have z2 := hp_cell (P1.out) 2
  have z3 := hp_cell (P1.out) 3
  have z4 := hp_cell (P1.out) 4
  have z5 := hp_cell (P1.out) 5
  have z6 := hp_cell (P1.out) 6
  have z7 := hp_cell (P1.out) 7
  simp only [List.getElem?_toArray, List.getElem?_cons_zero, List.getElem?_cons_succ] at z0 z1 z2 z3 z4 z5 z6 z7
  by_cases h1 : k < 1
  · have d1 : decide (k < 1) = true := decide_eq_true h1
    have hMf : Hid (mayF ⟨k, s, nc, r, t, o, l, L⟩ = false) := Lib.hid (by rw [hMd.out, decide_eq_false (show ¬ 1 ≤ k by omega)]; simp)
    go_wp2_with fail
    go_ret2
    exact ⟨.inr ⟨hMf.out, rfl⟩, B1.out⟩
  have d1 : decide (k < 1) = false := decide_eq_false h1
  by_cases h2 : 8 < k
  · have d2 : decide (8 < k) = true := decide_eq_true h2
    have hMf : Hid (mayF ⟨k, s, nc, r, t, o, l, L⟩ = false) := Lib.hid (by rw [hMd.out, decide_eq_false (show ¬ k ≤ 8 by omega)]; simp)
    go_wp2_with fail
    go_ret2
    exact ⟨.inr ⟨hMf.out, rfl⟩, B1.out⟩
  have d2 : decide (8 < k) = false := decide_eq_false h2
  have cS1 := cS.out s w1
  go_wp2_with fail
  refine Calls.mono cS1 ?_
  rintro e w2 ⟨rfl, rfl⟩
  clear cS1
  by_cases hs : badB s = true
  · have hMf : Hid (mayF ⟨k, s, nc, r, t, o, l, L⟩ = false) := Lib.hid (by rw [hMd.out, hs]; simp)
    rw [hs]
    replace hs := Lib.hid hs
    simp only [Bool.not_true]
    go_wp2_with fail
    go_ret2
    exact ⟨.inr ⟨hMf.out, rfl⟩, B1.out⟩
  have es : badB s = false := by simpa using hs
  have bs := badB_ok es
  rw [es]
  clear hs
  replace es := Lib.hid es
  simp only [Bool.not_false]
  have cS1 := cS.out r w1
  go_wp2_with fail
  refine Calls.mono cS1 ?_
  rintro e w2 ⟨rfl, rfl⟩
  clear cS1
  by_cases hr : badB r = true
  · have hMf : Hid (mayF ⟨k, s, nc, r, t, o, l, L⟩ = false) := Lib.hid (by rw [hMd.out, hr]; simp)
    rw [hr]
    replace hr := Lib.hid hr
    simp only [Bool.not_true]
    go_wp2_with fail
    go_ret2
    exact ⟨.inr ⟨hMf.out, rfl⟩, B1.out⟩
  have er : badB r = false := by simpa using hr
  have br := badB_ok er
  rw [er]
  clear hr
  replace er := Lib.hid er
  simp only [Bool.not_false]
  have cS1 := cS.out t w1
  go_wp2_with fail
  refine Calls.mono cS1 ?_
  rintro e w2 ⟨rfl, rfl⟩
  clear cS1
  by_cases ht : badB t = true
  · have hMf : Hid (mayF ⟨k, s, nc, r, t, o, l, L⟩ = false) := Lib.hid (by rw [hMd.out, ht]; simp)
    rw [ht]
    replace ht := Lib.hid ht
    simp only [Bool.not_true]
    go_wp2_with fail
    go_ret2
    exact ⟨.inr ⟨hMf.out, rfl⟩, B1.out⟩
  have et : badB t = false := by simpa using ht
  have bt := badB_ok et
  rw [et]
  clear ht
  replace et := Lib.hid et
  simp only [Bool.not_false]
  have cS1 := cS.out o w1
  go_wp2_with fail
  refine Calls.mono cS1 ?_
  rintro e w2 ⟨rfl, rfl⟩
  clear cS1
  by_cases ho : badB o = true
  · have hMf : Hid (mayF ⟨k, s, nc, r, t, o, l, L⟩ = false) := Lib.hid (by rw [hMd.out, ho]; simp)
    rw [ho]
    replace ho := Lib.hid ho
    simp only [Bool.not_true]
    go_wp2_with fail
    go_ret2
    exact ⟨.inr ⟨hMf.out, rfl⟩, B1.out⟩
  have eo : badB o = false := by simpa using ho
  have bo := badB_ok eo
  rw [eo]
  clear ho
  replace eo := Lib.hid eo
  simp only [Bool.not_false]
  have hgl : g < w1.heap.size := P1.out.lt
  by_cases hn : n ≤ 16
  case neg =>
    have d3 : decide ((16 : Int) < (n : Int)) = true := by simp; omega
    have hMf : Hid (mayF ⟨k, s, nc, r, t, o, l, L⟩ = false) := Lib.hid (by rw [hMd.out, decide_eq_false hn]; simp)
    by_cases hl : l = -1
    · subst hl
      go_wp2_with fail
      go_ret2
      exact ⟨.inr ⟨hMf.out, rfl⟩, B1.out⟩
    · have q : (l != -1) = true := by rw [bne_iff_ne]; exact hl
      have cS1 := cS.out l w1
      replace hl := Lib.hid hl
      go_wp2_with fail
      refine Calls.mono cS1 ?_
      rintro e w2 ⟨rfl, rfl⟩
      clear cS1
      cases badB l with
      | true =>
        simp only [Bool.not_true]
        go_wp2_with fail
        go_ret2
        exact ⟨.inr ⟨hMf.out, rfl⟩, B1.out⟩
      | false =>
        simp only [Bool.not_false]
        go_wp2_with fail
        go_ret2
        exact ⟨.inr ⟨hMf.out, rfl⟩, B1.out⟩
  have d3 : decide ((16 : Int) < (n : Int)) = false := by simp; omega
  by_cases hl : l = -1
  · subst hl
    have hMt : Hid (mayF ⟨k, s, nc, r, t, o, (-1), L⟩ = true) := Lib.hid (by
      rw [hMd.out, es.out, er.out, et.out, eo.out, show badB (max (-1) 0) = false from rfl, decide_eq_true (show 1 ≤ k by omega), decide_eq_true (show k ≤ 8 by omega), decide_eq_true (show -1 ≤ (-1) by omega), decide_eq_true hn]
      rfl)
    obtain ⟨kn, rfl⟩ := Int.eq_ofNat_of_zero_le (show 0 ≤ k by omega)
    obtain ⟨sn, rfl⟩ := Int.eq_ofNat_of_zero_le bs.1
    obtain ⟨rn, rfl⟩ := Int.eq_ofNat_of_zero_le br.1
    obtain ⟨tn, rfl⟩ := Int.eq_ofNat_of_zero_le bt.1
    obtain ⟨on, rfl⟩ := Int.eq_ofNat_of_zero_le bo.1
    have hH2 := hH.out
    simp only [List.map_cons, List.map_nil] at hH2
    rw [b8_nat (show kn < 256 by omega), b8_nat (show sn < 256 by omega), b8_nat (show rn < 256 by omega), b8_nat (show tn < 256 by omega), b8_nat (show on < 256 by omega), b8_nat (show n < 256 by omega), show b8 (-1) = 255 from rfl] at hH2
    clear es er et eo hH
    replace hH2 := Lib.hid hH2
    have hz1 := B1.out.size
    go_upto_region 6 with (fail)
    have O6 := OB.new w1 w1.heap.size [kn, sn] 2 (Nat.le_refl _) rfl (by decide) (fun x hx => by simp at hx; omega)
    have hiv : ivA .u8 [kn, sn] = #[.int .u8 (kn : Nat), .int .u8 (sn : Nat)] := rfl
    rw [hiv] at O6
    have B6 : Hid (BW w1 (w1.alloc (.cells #[.int .u8 (kn : Nat), .int .u8 (sn : Nat)] 5))) := (BW.refl _).alloc
    have cP := Lib.hid (rput_ok _ 2 [kn, sn] 8 nc 8 (by decide) (by decide) rfl hnc (by decide) _ O6.sb)
    clear O6 hiv
    generalize hw6 : w1.alloc (.cells #[.int .u8 (kn : Nat), .int .u8 (sn : Nat)] 5) = w6 at *
    have y2 := hp_cell (P1.out.bw B6.out) 2
    simp only [List.getElem?_toArray, List.getElem?_cons_zero, List.getElem?_cons_succ] at y2
    go_wp2_with fail
    refine Calls.mono cP.out ?_
    rintro e w7 ⟨v7, rfl, O7, hb⟩
    obtain ⟨s7, c7, rfl, hc7, hm7⟩ := O7.len
    unfold maxLen at hm7
    clear z0 z1 z2 z3 z4 z5 z6 z7
    have B7 := Lib.hid (B6.out.trans hb)
    have P7 := Lib.hid (P1.out.bw B7.out)
    have hz6 := B6.out.size
    clear cP hb hw6 y2
    have z0 := hp_cell (P7.out) 0
    have z1 := hp_cell (P7.out) 1
    have z2 := hp_cell (P7.out) 2
    have z3 := hp_cell (P7.out) 3
    have z4 := hp_cell (P7.out) 4
    have z5 := hp_cell (P7.out) 5
    have z6 := hp_cell (P7.out) 6
    have z7 := hp_cell (P7.out) 7
    simp only [List.getElem?_toArray, List.getElem?_cons_zero, List.getElem?_cons_succ] at z0 z1 z2 z3 z4 z5 z6 z7
    have B8 : BW w7 (w7.alloc (.cells #[.int .u8 (rn : Nat), .int .u8 (tn : Nat), .int .u8 (on : Nat), .int .u8 (255 : Nat), .int .u8 (n : Nat)] 5)) := (BW.refl _).alloc
    have S8 : Hid (SB (w7.alloc (.cells #[.int .u8 (rn : Nat), .int .u8 (tn : Nat), .int .u8 (on : Nat), .int .u8 (255 : Nat), .int .u8 (n : Nat)] 5)) (.slice (some ⟨w7.heap.size, 0, none⟩) 5 5) 5 [rn, tn, on, 255, n]) := Lib.hid (OB.new w7 0 [rn, tn, on, 255, n] 5 (Nat.zero_le _) rfl (by decide) (fun x hx => by simp at hx; omega)).sb
    have O8 := Lib.hid ((O7.up hz6).bw B8)
    have B9 := Lib.hid (B7.out.trans B8)
    have P9 := Lib.hid (P7.out.bw B8)
    have hz9 := B9.out.size
    have hO8 : ∀ j, (Value.slice s7 (2 + 8) c7).ownBlock = some j → w1.heap.size ≤ j := O8.out.ge'
    clear O7 B7 P7
    replace B8 := Lib.hid B8
    replace hO8 := Lib.hid hO8
    go_upto_region 8 with (at_builtin; go_must (refine wpList_apOB rfl _ _ rfl w1.heap.size _ 10 _ rfl O8.out _ rfl 5 _ S8.out (by omega) hz9 ?_; intro s12 c12 w12 hc12 hm12 O12 T12 B12 G12; unfold maxLen at hm12; replace O12 := Lib.hid O12; replace T12 := Lib.hid T12; clear G12 B12))
    clear z0 z1 z2 z3 z4 z5 z6 z7
    have B12 := Lib.hid (BW.stP B9.out T12.out (fun j hj => hO8.out j (Option.mem_toList.1 hj)))
    rw [← hH2.out] at O12
    simp only [Nat.reduceAdd] at O12 hc12 ⊢
    clear O8 P9 B9 S8 T12 hO8 B8 hz9
    go_upto_region 9 with (fail)
    go_loopg [7, 8] n (fun m' s i wx => ∃ (k : Nat) (so : Option Addr) (co : Nat), m' = n - k ∧ k ≤ n ∧ s = .slice so (15 + 4 * k) co ∧ 15 + 4 * k ≤ co ∧ co ≤ 9223372036854775807 ∧ i = .int .i64 (k : Nat) ∧ Hid (OB wx w1.heap.size 5 (.slice so (15 + 4 * k) co) (15 + 4 * k) (H ++ othF (L.take k))) ∧ Hid (BW w1 wx))
    case atStart => exact ⟨0, s12, c12, rfl, by omega, rfl, by omega, hm12, rfl, Lib.hid (by rw [List.take_zero]; simpa [othF] using O12.out), B12⟩
    case round =>
      clear O12 B12 hc12 hm12
      obtain ⟨k', so, co, rfl, hk', rfl, hco, hcm, rfl, O, B⟩ := hrel
      have P := Lib.hid (P1.out.bw B.out)
      have zz := hp_cell P.out 7
      simp only [List.getElem?_toArray, List.getElem?_cons_zero, List.getElem?_cons_succ] at zz
      by_cases hkn : k' < n
      · have d : decide ((k' : Int) < (n : Int)) = true := by simp; omega
        have hkL : k' < L.length := by rw [hLn.out]; exact hkn
        obtain ⟨b, o', cap', he, _, _, _, hc⟩ := (hS.out.bw (B1.out.trans B.out)).form (by omega)
        cases he
        have z := hc k' hkn
        rw [nzl_get] at z
        have hx : L.getD k' 0 < 4294967296 := by
          rw [List.getD_eq_getElem?_getD, List.getElem?_eq_getElem hkL]
          exact hsr.out _ (List.getElem_mem hkL)
        have hsn := othF_snoc hkL
        clear hc
        generalize L.getD k' 0 = x at *
        have cP := Lib.hid (rput_ok _ _ _ 4 x 4 (by decide) (by decide) rfl (by omega) (by omega) wr O.out.sb)
        have e4 : 15 + 4 * k' + 4 = 15 + 4 * (k' + 1) := by omega
        rw [List.append_assoc, ← hsn, e4] at cP
        replace e4 := Lib.hid e4
        replace hsn := Lib.hid hsn
        go_wp2_with fail
        refine Calls.mono cP.out ?_
        rintro e w13 ⟨v13, rfl, O13, hb⟩
        obtain ⟨s13, c13, rfl, hc13, hm13⟩ := O13.len
        have S13 := Lib.hid (O13.up B.out.size)
        have B13 := Lib.hid (B.out.trans hb)
        unfold maxLen at hm13
        clear cP O13 hb O B z d zz P
        dsimp only
        go_wp2_with fail
        go_roundg (n - (k' + 1))
        case measure => omega
        case rel => exact ⟨k' + 1, s13, c13, rfl, by omega, rfl, hc13, hm13, by push_cast; rfl, S13, B13⟩
      · obtain rfl : k' = n := by omega
        have d : decide ((k' : Int) < (k' : Int)) = false := by simp
        rw [List.take_of_length_le (by rw [hLn.out]; exact Nat.le_refl _)] at O
        have cT := Lib.hid (rtag_ok sk nk ck so (15 + 4 * k') co 10 key (H ++ othF L) (by decide) (by decide) (by omega) (by omega) wr (hk.out.bw (B1.out.trans B.out)) O.out.sb)
        simp only [show (10 : Int).toNat = 10 from rfl, show min 10 20 = 10 from rfl] at cT
        have hN2 := hN.out
        unfold tagB at hN2
        have eN : 15 + 4 * k' + 10 = N.length := by rw [hNl.out]; omega
        generalize (hmacN key (H ++ othF L)).take 10 = T at *
        replace eN := Lib.hid eN
        replace hN2 := Lib.hid hN2
        go_wp2_with fail
        refine Calls.mono cT.out ?_
        rintro e w14 ⟨v14, rfl, O14, hb⟩
        obtain ⟨s14, c14, rfl, hc14, hm14⟩ := O14.len
        unfold maxLen at hm14
        have S14 := Lib.hid O14.sb
        have OO := Lib.hid (O.out.bw hb)
        have B15 := Lib.hid (B.out.trans hb)
        have hz15 := B15.out.size
        clear cT O14 hb B O zz P
        dsimp only
        go_wp2_with (at_builtin; go_must (refine wpList_apOB rfl _ _ rfl w1.heap.size _ _ _ rfl OO.out _ rfl 10 _ S14.out (by omega) hz15 ?_; intro s16 c16 w16 hc16 hm16 O16 T16 B16 G16; unfold maxLen at hm16; replace O16 := Lib.hid O16; replace T16 := Lib.hid T16; clear G16 B16))
        have B16 := Lib.hid (BW.stP B15.out T16.out (fun j hj => OO.out.ge' j (Option.mem_toList.1 hj)))
        rw [← hN2.out] at O16
        have O17 : Hid (OB w16 w1.heap.size 5 (.slice s16 (15 + 4 * k' + 10) c16) N.length N) := Lib.hid (by rw [← eN.out]; exact O16.out)
        go_ret2
        exact ⟨.inl ⟨hMt.out, _, rfl, O17.out.up hz1⟩, B1.out.trans B16.out⟩
  · have q : (l != -1) = true := by rw [bne_iff_ne]; exact hl
    have cS1 := cS.out l w1
    go_wp2_with fail
    refine Calls.mono cS1 ?_
    rintro e w2 ⟨rfl, rfl⟩
    clear cS1
    by_cases hbl : badB l = true
    · have hMf : Hid (mayF ⟨k, s, nc, r, t, o, l, L⟩ = false) := Lib.hid (by
        rw [hMd.out]
        by_cases h0 : -1 ≤ l
        · rw [show max l 0 = l by omega, hbl]; simp
        · rw [decide_eq_false h0]; simp)
      rw [hbl]
      replace hbl := Lib.hid hbl
      simp only [Bool.not_true]
      go_wp2_with fail
      go_ret2
      exact ⟨.inr ⟨hMf.out, rfl⟩, B1.out⟩
    have el : badB l = false := by simpa using hbl
    have bl := badB_ok el
    rw [el]
    simp only [Bool.not_false]
    have hmx : badB (max l 0) = false := by rw [show max l 0 = l by omega]; exact el
    clear hbl hl
    replace el := Lib.hid el
    replace hmx := Lib.hid hmx
    obtain ⟨ln, rfl⟩ := Int.eq_ofNat_of_zero_le bl.1
    have hMt : Hid (mayF ⟨k, s, nc, r, t, o, (ln : Int), L⟩ = true) := Lib.hid (by
      rw [hMd.out, es.out, er.out, et.out, eo.out, hmx.out, decide_eq_true (show 1 ≤ k by omega), decide_eq_true (show k ≤ 8 by omega), decide_eq_true (show -1 ≤ (ln : Int) by omega), decide_eq_true hn]
      rfl)
    obtain ⟨kn, rfl⟩ := Int.eq_ofNat_of_zero_le (show 0 ≤ k by omega)
    obtain ⟨sn, rfl⟩ := Int.eq_ofNat_of_zero_le bs.1
    obtain ⟨rn, rfl⟩ := Int.eq_ofNat_of_zero_le br.1
    obtain ⟨tn, rfl⟩ := Int.eq_ofNat_of_zero_le bt.1
    obtain ⟨on, rfl⟩ := Int.eq_ofNat_of_zero_le bo.1
    have hH2 := hH.out
    simp only [List.map_cons, List.map_nil] at hH2
    rw [b8_nat (show kn < 256 by omega), b8_nat (show sn < 256 by omega), b8_nat (show rn < 256 by omega), b8_nat (show tn < 256 by omega), b8_nat (show on < 256 by omega), b8_nat (show n < 256 by omega), b8_nat (show ln < 256 by omega)] at hH2
    clear es er et eo hH
    replace hH2 := Lib.hid hH2
    have hz1 := B1.out.size
    go_upto_region 6 with (fail)
    have O6 := OB.new w1 w1.heap.size [kn, sn] 2 (Nat.le_refl _) rfl (by decide) (fun x hx => by simp at hx; omega)
    have hiv : ivA .u8 [kn, sn] = #[.int .u8 (kn : Nat), .int .u8 (sn : Nat)] := rfl
    rw [hiv] at O6
    have B6 : Hid (BW w1 (w1.alloc (.cells #[.int .u8 (kn : Nat), .int .u8 (sn : Nat)] 5))) := (BW.refl _).alloc
    have cP := Lib.hid (rput_ok _ 2 [kn, sn] 8 nc 8 (by decide) (by decide) rfl hnc (by decide) _ O6.sb)
    clear O6 hiv
    generalize hw6 : w1.alloc (.cells #[.int .u8 (kn : Nat), .int .u8 (sn : Nat)] 5) = w6 at *
    have y2 := hp_cell (P1.out.bw B6.out) 2
    simp only [List.getElem?_toArray, List.getElem?_cons_zero, List.getElem?_cons_succ] at y2
    go_wp2_with fail
    refine Calls.mono cP.out ?_
    rintro e w7 ⟨v7, rfl, O7, hb⟩
    obtain ⟨s7, c7, rfl, hc7, hm7⟩ := O7.len
    unfold maxLen at hm7
    clear z0 z1 z2 z3 z4 z5 z6 z7
    have B7 := Lib.hid (B6.out.trans hb)
    have P7 := Lib.hid (P1.out.bw B7.out)
    have hz6 := B6.out.size
    clear cP hb hw6 y2
    have z0 := hp_cell (P7.out) 0
    have z1 := hp_cell (P7.out) 1
    have z2 := hp_cell (P7.out) 2
    have z3 := hp_cell (P7.out) 3
    have z4 := hp_cell (P7.out) 4
    have z5 := hp_cell (P7.out) 5
    have z6 := hp_cell (P7.out) 6
    have z7 := hp_cell (P7.out) 7
    simp only [List.getElem?_toArray, List.getElem?_cons_zero, List.getElem?_cons_succ] at z0 z1 z2 z3 z4 z5 z6 z7
    have B8 : BW w7 (w7.alloc (.cells #[.int .u8 (rn : Nat), .int .u8 (tn : Nat), .int .u8 (on : Nat), .int .u8 (ln : Nat), .int .u8 (n : Nat)] 5)) := (BW.refl _).alloc
    have S8 : Hid (SB (w7.alloc (.cells #[.int .u8 (rn : Nat), .int .u8 (tn : Nat), .int .u8 (on : Nat), .int .u8 (ln : Nat), .int .u8 (n : Nat)] 5)) (.slice (some ⟨w7.heap.size, 0, none⟩) 5 5) 5 [rn, tn, on, ln, n]) := Lib.hid (OB.new w7 0 [rn, tn, on, ln, n] 5 (Nat.zero_le _) rfl (by decide) (fun x hx => by simp at hx; omega)).sb
    have O8 := Lib.hid ((O7.up hz6).bw B8)
    have B9 := Lib.hid (B7.out.trans B8)
    have P9 := Lib.hid (P7.out.bw B8)
    have hz9 := B9.out.size
    have hO8 : ∀ j, (Value.slice s7 (2 + 8) c7).ownBlock = some j → w1.heap.size ≤ j := O8.out.ge'
    clear O7 B7 P7
    replace B8 := Lib.hid B8
    replace hO8 := Lib.hid hO8
    go_upto_region 8 with (at_builtin; go_must (refine wpList_apOB rfl _ _ rfl w1.heap.size _ 10 _ rfl O8.out _ rfl 5 _ S8.out (by omega) hz9 ?_; intro s12 c12 w12 hc12 hm12 O12 T12 B12 G12; unfold maxLen at hm12; replace O12 := Lib.hid O12; replace T12 := Lib.hid T12; clear G12 B12))
    clear z0 z1 z2 z3 z4 z5 z6 z7
    have B12 := Lib.hid (BW.stP B9.out T12.out (fun j hj => hO8.out j (Option.mem_toList.1 hj)))
    rw [← hH2.out] at O12
    simp only [Nat.reduceAdd] at O12 hc12 ⊢
    clear O8 P9 B9 S8 T12 hO8 B8 hz9
    go_upto_region 9 with (fail)
    go_loopg [7, 8] n (fun m' s i wx => ∃ (k : Nat) (so : Option Addr) (co : Nat), m' = n - k ∧ k ≤ n ∧ s = .slice so (15 + 4 * k) co ∧ 15 + 4 * k ≤ co ∧ co ≤ 9223372036854775807 ∧ i = .int .i64 (k : Nat) ∧ Hid (OB wx w1.heap.size 5 (.slice so (15 + 4 * k) co) (15 + 4 * k) (H ++ othF (L.take k))) ∧ Hid (BW w1 wx))
    case atStart => exact ⟨0, s12, c12, rfl, by omega, rfl, by omega, hm12, rfl, Lib.hid (by rw [List.take_zero]; simpa [othF] using O12.out), B12⟩
    case round =>
      clear O12 B12 hc12 hm12
      obtain ⟨k', so, co, rfl, hk', rfl, hco, hcm, rfl, O, B⟩ := hrel
      have P := Lib.hid (P1.out.bw B.out)
      have zz := hp_cell P.out 7
      simp only [List.getElem?_toArray, List.getElem?_cons_zero, List.getElem?_cons_succ] at zz
      by_cases hkn : k' < n
      · have d : decide ((k' : Int) < (n : Int)) = true := by simp; omega
        have hkL : k' < L.length := by rw [hLn.out]; exact hkn
        obtain ⟨b, o', cap', he, _, _, _, hc⟩ := (hS.out.bw (B1.out.trans B.out)).form (by omega)
        cases he
        have z := hc k' hkn
        rw [nzl_get] at z
        have hx : L.getD k' 0 < 4294967296 := by
          rw [List.getD_eq_getElem?_getD, List.getElem?_eq_getElem hkL]
          exact hsr.out _ (List.getElem_mem hkL)
        have hsn := othF_snoc hkL
        clear hc
        generalize L.getD k' 0 = x at *
        have cP := Lib.hid (rput_ok _ _ _ 4 x 4 (by decide) (by decide) rfl (by omega) (by omega) wr O.out.sb)
        have e4 : 15 + 4 * k' + 4 = 15 + 4 * (k' + 1) := by omega
        rw [List.append_assoc, ← hsn, e4] at cP
        replace e4 := Lib.hid e4
        replace hsn := Lib.hid hsn
        go_wp2_with fail
        refine Calls.mono cP.out ?_
        rintro e w13 ⟨v13, rfl, O13, hb⟩
        obtain ⟨s13, c13, rfl, hc13, hm13⟩ := O13.len
        have S13 := Lib.hid (O13.up B.out.size)
        have B13 := Lib.hid (B.out.trans hb)
        unfold maxLen at hm13
        clear cP O13 hb O B z d zz P
        dsimp only
        go_wp2_with fail
        go_roundg (n - (k' + 1))
        case measure => omega
        case rel => exact ⟨k' + 1, s13, c13, rfl, by omega, rfl, hc13, hm13, by push_cast; rfl, S13, B13⟩
      · obtain rfl : k' = n := by omega
        have d : decide ((k' : Int) < (k' : Int)) = false := by simp
        rw [List.take_of_length_le (by rw [hLn.out]; exact Nat.le_refl _)] at O
        have cT := Lib.hid (rtag_ok sk nk ck so (15 + 4 * k') co 10 key (H ++ othF L) (by decide) (by decide) (by omega) (by omega) wr (hk.out.bw (B1.out.trans B.out)) O.out.sb)
        simp only [show (10 : Int).toNat = 10 from rfl, show min 10 20 = 10 from rfl] at cT
        have hN2 := hN.out
        unfold tagB at hN2
        have eN : 15 + 4 * k' + 10 = N.length := by rw [hNl.out]; omega
        generalize (hmacN key (H ++ othF L)).take 10 = T at *
        replace eN := Lib.hid eN
        replace hN2 := Lib.hid hN2
        go_wp2_with fail
        refine Calls.mono cT.out ?_
        rintro e w14 ⟨v14, rfl, O14, hb⟩
        obtain ⟨s14, c14, rfl, hc14, hm14⟩ := O14.len
        unfold maxLen at hm14
        have S14 := Lib.hid O14.sb
        have OO := Lib.hid (O.out.bw hb)
        have B15 := Lib.hid (B.out.trans hb)
        have hz15 := B15.out.size
        clear cT O14 hb B O zz P
        dsimp only
        go_wp2_with (at_builtin; go_must (refine wpList_apOB rfl _ _ rfl w1.heap.size _ _ _ rfl OO.out _ rfl 10 _ S14.out (by omega) hz15 ?_; intro s16 c16 w16 hc16 hm16 O16 T16 B16 G16; unfold maxLen at hm16; replace O16 := Lib.hid O16; replace T16 := Lib.hid T16; clear G16 B16))
        have B16 := Lib.hid (BW.stP B15.out T16.out (fun j hj => OO.out.ge' j (Option.mem_toList.1 hj)))
        rw [← hN2.out] at O16
        have O17 : Hid (OB w16 w1.heap.size 5 (.slice s16 (15 + 4 * k' + 10) c16) N.length N) := Lib.hid (by rw [← eN.out]; exact O16.out)
        go_ret2
        exact ⟨.inl ⟨hMt.out, _, rfl, O17.out.up hz1⟩, B1.out.trans B16.out⟩
end Go.Proofs.Ytcempndfbckcaaa
