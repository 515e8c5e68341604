/- mac: a copy of bytes, zeros behind, the key's block, each byte turned. No condition but the sizes'. -/
import Derived.Test.YtjjemkfkpnemoaaShU
import Derived.Test.YtjjemkfkpnemoaaSlz
namespace Go.Proofs.Ytjjemkfkpnemoaa
open Go.RowKit

theorem zU8 : ∃ i, Try.prog.info? 5 = some i ∧ i.zero = some (.int .u8 0) ∧ i.size = 1 ∧ i.bytes = 1 := by
  have h : (Try.prog.info? 5).map (fun i => (i.zero, i.size, i.bytes)) = some (some (.int .u8 0), 1, 1) := by kernel_rfl
  cases hi : Try.prog.info? 5 with
  | none => simp [hi] at h
  | some i =>
    simp only [hi, Option.map_some, Option.some.injEq, Prod.mk.injEq] at h
    exact ⟨i, rfl, h.1, h.2.1, h.2.2⟩
/-- append(v, make([]byte, k)...) -/
theorem wpList_apOBz {ops : Array Oper} {rest : List Oper} {o : Oper} {a : Act} {w : World} {Q : Exit → Act → World → Prop} (hgd : o.guard = none) (s x : Operand)
    (ho : o.op = .call { callee := .builtin .append, args := #[s, x], argTypes := #[37, 3] }) (base : Nat) (v : Value) (n : Nat) (l : List Nat) (hs : a.eval s = v) (hown : OB w base 5 v n l) (k : Nat) (hx : a.eval x = .int .i64 k)
    (hsz : n + k ≤ 1000000000000) (hbase : base ≤ w.heap.size)
    (h : ∀ sa cap w', n + k ≤ cap → cap ≤ maxLen → OB w' base 5 (.slice sa (n + k) cap) (n + k) (l ++ List.replicate k 0) → Still v.ownBlock.toList w w' → Below base w w' → (∀ j, (Value.slice sa (n + k) cap).ownBlock = some j → v.ownBlock = some j ∨ w.heap.size ≤ j) → wpList Try.prog ops Q rest (a.put o.dst (.slice sa (n + k) cap)) w') : wpList Try.prog ops Q (o :: rest) a w := by
  refine wpList_plain hgd fun _ hK => ?_
  have key := fun ty => run_append_ob_zeros (P := Try.prog) w Try.underlying37 zU8 (tn := 3) Try.underlying3 ty base v n l hown k hsz hbase
  obtain ⟨v', w', h1, h2, h3, h4⟩ := key 0
  obtain ⟨sa, cap, rfl, hc, hm⟩ := h2.len
  refine wp_append_run 37 3 s x ho v (.int .i64 k) _ hs hx (fun ty => by rw [← h1]; rfl) (hK _ _ (h sa cap w' hc hm h2 (Still.of_row h3) (Ows.grown hbase (Nat.le_refl _) hown.2.2 h3) h4))
theorem SB.none {w : World} {ln cp : Nat} {l : List Nat} (h : SB w (.slice none ln cp) ln l) : ln = 0 ∧ cp = 0 ∧ l = [] := by
  obtain ⟨h1, _, _, _, ⟨h5, sa, cp', he, hc, _⟩ | ⟨b, o, cap, he, _⟩⟩ := h
  · cases he
    exact ⟨h5, hc rfl, List.eq_nil_of_length_eq_zero (by omega)⟩
  · cases he

set_option maxRecDepth 100000 in
set_option maxHeartbeats 2000000 in
theorem clone_ok (sa : Option Addr) (ln cp : Nat) (l : List Nat) (hn : ln ≤ 1000000000000) (w : World) (hv : SB w (.slice sa ln cp) ln l) :
    Calls Try.prog 73 #[.slice sa ln cp] w fun e w' => ∃ v, e = .returned v ∧ OB w' w.heap.size 5 v ln l ∧ Below w.heap.size w w' := by
  cases sa with
  | none =>
    obtain ⟨rfl, rfl, rfl⟩ := hv.none
    have heq := fun (w : World) => Lib.run_eql_slice_nil (P := Try.prog) w 37 5 none 0 0 0 0 Try.underlying37
    go_enter Try.func73, Try.ntmps73
    go_wp2_with fail
    go_ret
    exact ⟨_, rfl, OB.nil _ _ _, Below.refl _ _⟩
  | some ad =>
    have heq := fun (w : World) => Lib.run_eql_slice_nil (P := Try.prog) w 37 5 (some ad) ln cp 0 0 Try.underlying37
    have V1 := Lib.hid (hv.alloc (.cells #[] 5))
    have O1 := Lib.hid (OB.new0 w w.heap.size (Nat.le_refl _))
    have B1 := Lib.hid ((Below.refl w.heap.size w).alloc (Nat.le_refl _) (.cells #[] 5))
    have hz1 := B1.out.size
    clear hv
    go_enter Try.func73, Try.ntmps73
    go_wp2_with (at_builtin; go_must (refine wpList_apOB rfl _ _ rfl w.heap.size _ 0 [] rfl O1.out _ rfl ln l V1.out (by omega) hz1 ?_; intro s4 c4 w4 hc4 hm4 O4 T4 B4 G4; simp only [Nat.zero_add, List.nil_append] at O4; replace O4 := Lib.hid O4; replace B4 := Lib.hid (B1.out.trans B4); clear T4 G4))
    go_ret
    exact ⟨_, rfl, by simpa using O4.out, B4.out⟩

/-- Each byte's exclusive or with one. -/
def xorl (l : List Nat) (c : Nat) : List Nat := l.map fun x => x ^^^ c
/-- The first k bytes turned. -/
def xk (l : List Nat) (c k : Nat) : List Nat := xorl (l.take k) c ++ l.drop k
theorem xk_len (l : List Nat) (c k : Nat) : (xk l c k).length = l.length := by simp [xk, xorl]; omega
theorem xk_get (l : List Nat) (c k : Nat) (h : k < l.length) : (xk l c k).getD k 0 = l.getD k 0 := by
  unfold xk xorl
  rw [List.getD_eq_getElem?_getD, List.getElem?_append_right (by simp; omega)]
  simp only [List.length_map, List.length_take, List.getElem?_drop, List.getD_eq_getElem?_getD]
  congr 2; omega
theorem xk_set (l : List Nat) (c k : Nat) (h : k < l.length) : (xk l c k).set k (l.getD k 0 ^^^ c) = xk l c (k + 1) := by
  unfold xk xorl
  have hl : ((l.take k).map fun x => x ^^^ c).length = k := by simp; omega
  rw [List.set_append_right _ _ (by omega), hl, Nat.sub_self, List.drop_eq_getElem_cons h, List.set_cons_zero, List.take_succ_eq_append_getElem h, List.map_append, List.append_assoc, List.getD_eq_getElem?_getD, List.getElem?_eq_getElem h]
  rfl

set_option maxRecDepth 100000 in
set_option maxHeartbeats 2000000 in
theorem with_ok (sa : Option Addr) (ln cp : Nat) (l : List Nat) (c : Nat) (hc : c < 256) (hn : ln ≤ 1000000000000) (w : World) (hv : SB w (.slice sa ln cp) ln l) :
    Calls Try.prog 72 #[.slice sa ln cp, .int .u8 (c : Nat)] w fun e w' => ∃ v, e = .returned v ∧ OB w' w.heap.size 5 v ln (xorl l c) ∧ Below w.heap.size w w' := by
  have hll := Lib.hid hv.1
  have hlb := Lib.hid hv.2.1
  have cl := Lib.hid (clone_ok sa ln cp l hn w hv)
  clear hv
  go_enter Try.func72, Try.ntmps72
  go_wp2_with fail
  refine cl.out.mono ?_
  rintro e w1 ⟨v, rfl, O1, B1⟩
  obtain ⟨s1, c1, rfl, hc1, hm1⟩ := O1.len
  unfold maxLen at hm1
  replace O1 := Lib.hid O1
  replace B1 := Lib.hid B1
  clear cl
  dsimp only
  go_wp2_with fail
  go_loopg [11] ln (fun m' i wx => ∃ k, m' = ln - k ∧ k ≤ ln ∧ i = .int .i64 (k : Nat) ∧ Hid (OB wx w.heap.size 5 (.slice s1 ln c1) ln (xk l c k)) ∧ Hid (Below w.heap.size w wx))
  case atStart => exact ⟨0, by omega, by omega, rfl, by simpa [xk, xorl] using O1, B1⟩
  case round =>
    clear O1 B1
    obtain ⟨k, rfl, hk, rfl, O2, B2⟩ := hrel
    by_cases hkn : k < ln
    · obtain ⟨g, o, cap, he, hbg, hlt, _, _, hcell, hfz⟩ := O2.out.form (by omega)
      cases he
      have hx := xk_set l c k (by rw [hll.out]; exact hkn)
      have hcx := hcell k hkn
      rw [xk_get l c k (by rw [hll.out]; exact hkn)] at hcx
      have hfx := hfz (o + k)
      have hy := ByL.get hlb.out k
      generalize l.getD k 0 = y at *
      have hxr := u8_xor_nat y c hy hc
      have hyx : y ^^^ c < 256 := Nat.xor_lt_two_pow (n := 8) hy hc
      have O3 := Lib.hid (O2.out.set k hkn (y ^^^ c) hyx)
      rw [hx] at O3
      have B3 := Lib.hid (Below.set3 B2.out (b := g) (o := o + k) hbg (.int .u8 (y ^^^ c : Nat)))
      clear hcell hfz O2 B2 hx
      go_wp2_with fail
      go_roundg (ln - (k + 1))
      case measure => omega
      case rel => exact ⟨k + 1, rfl, by omega, by go_num, O3, B3⟩
    · obtain rfl : k = ln := by omega
      go_wp2_with fail
      go_ret
      refine ⟨_, rfl, ?_, B2.out⟩
      have := O2.out
      unfold xk at this
      rw [List.take_of_length_le (by rw [hll.out]; exact Nat.le_refl _), List.drop_of_length_le (by rw [hll.out]; exact Nat.le_refl _), List.append_nil] at this
      exact this
end Go.Proofs.Ytjjemkfkpnemoaa
