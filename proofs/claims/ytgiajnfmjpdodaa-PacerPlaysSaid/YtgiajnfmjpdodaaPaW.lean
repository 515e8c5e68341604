/- No pacer; the reference's New; a pacer beside the reference's. No condition. -/
import Derived.Test.YtgiajnfmjpdodaaPaV
import Derived.Test.YtgiajnfmjpdodaaPaI
import Derived.Test.YtgiajnfmjpdodaaPaG
import Derived.Test.YtgiajnfmjpdodaaQa
namespace Go.Proofs.Ytgiajnfmjpdodaa
open Go.RowKit

set_option maxRecDepth 100000 in
set_option maxHeartbeats 8000000 in
theorem nil_push (n : Nat) (w : World) (sa : Option Addr) (cls : Int) (hn : n ≤ 1000) :
    Calls Try.prog 23 #[.pointer none, .agg #[.int .i64 cls, .slice sa n n]] w fun e w' => e = .returned (.int .i64 1) ∧ BW w w' := by
  have hmf : ∀ (fn : Fn) (first cap : Array Value) (w : World), (Instr.makeFunc fn first cap).run Try.prog w = .ok (.func fn first cap) w := fun _ _ _ _ => rfl
  go_enter Try.func23, Try.ntmps23
  go_wp2_with fail
  go_ret
  exact ⟨rfl, (by repeat (first | exact BW.refl _ | apply BW.alloc | apply BW.drewN | apply BW.drew))⟩
set_option maxRecDepth 100000 in
set_option maxHeartbeats 8000000 in
theorem nil_out (w : World) :
    Calls Try.prog 24 #[.pointer none] w fun e w' => e = .returned (.slice none 0 0) ∧ w = w' := by
  go_enter Try.func24, Try.ntmps24
  go_wp2_with fail
  go_ret
  exact ⟨rfl, rfl⟩
theorem nil_len (w : World) :
    Calls Try.prog 28 #[.pointer none] w fun e w' => e = .returned (.int .i64 0) ∧ w = w' := by
  go_enter Try.func28, Try.ntmps28
  go_wp2_with fail
  go_ret
  exact ⟨rfl, rfl⟩
theorem nil_size (w : World) :
    Calls Try.prog 29 #[.pointer none] w fun e w' => e = .returned (.int .i64 0) ∧ w = w' := by
  go_enter Try.func29, Try.ntmps29
  go_wp2_with fail
  go_ret
  exact ⟨rfl, rfl⟩
theorem nil_gone (w : World) :
    Calls Try.prog 30 #[.pointer none] w fun e w' => e = .returned (.int .i64 0) ∧ w = w' := by
  go_enter Try.func30, Try.ntmps30
  go_wp2_with fail
  go_ret
  exact ⟨rfl, rfl⟩
set_option maxRecDepth 100000 in
set_option maxHeartbeats 8000000 in
theorem rnew_any (r u pk by_ : Int) (w : World) :
    Calls Try.prog 31 #[.int .u64 r, .int .u64 u, .int .i64 pk, .int .i64 by_] w fun e w' => ∃ g gb, e = .returned (.pointer (some ⟨g, 0, none⟩)) ∧ (∀ base, RpV w' base g (.pointer (some ⟨gb, 0, none⟩)) pk by_ (.slice none 0 0) [] 0) ∧ Rb w' gb r u u ∧ w.heap.size ≤ g ∧ w.heap.size ≤ gb ∧ BW w w' := by
  have c := Lib.hid (rbnew_any r u w)
  go_enter Try.func31, Try.ntmps31
  go_wp2_with fail
  refine Calls.mono c.out ?_
  rintro e w1 ⟨rfl, rfl⟩
  dsimp only
  go_wp2_with fail
  go_ret
  have B1 : BW w (w.alloc (.cells #[.int .u64 r, .int .u64 u, .int .u64 u] 109)) := (BW.refl _).alloc
  have K : Rb (w.alloc (.cells #[.int .u64 r, .int .u64 u, .int .u64 u] 109)) w.heap.size r u u := heap_alloc_new w _
  exact ⟨w.heap.size + 1, w.heap.size, by simp, fun base => ⟨hp_new _ _ _ (by simp), PQ.nil _ _⟩, BW.heap ((BW.refl _).alloc) K, by omega, by omega, B1.alloc⟩

theorem sub_mid {g r : Nat} {l : List Nat} : (g :: l) ⊆ (g :: r :: l) := fun k hk => (List.mem_cons.1 hk).elim (fun h => by rw [h]; simp) (fun h => by simp [h])
theorem sub_one {g r : Nat} {l : List Nat} : [r] ⊆ (g :: r :: l) := fun k hk => by obtain rfl : k = r := (by simpa using hk); simp
theorem mem_or3 {g gb : Nat} {l : List Nat} : ∀ k ∈ g :: l, k = g ∨ k = gb ∨ k ∈ l := fun k hk => (List.mem_cons.1 hk).imp id .inr
theorem qlPc {C : World → Prop} {a a1 : Act} {o : Oper} {K : Act → Prop} {x : Operand} (ho : o.op = .load 43 x) {g : Nat} (hx : a.eval x = .pointer (some ⟨g, 0, none⟩)) {c : Array Value} (hl : c.size = 2) (h : ∀ w, C w → HpB w g (.cells c 43)) (ha : a.put o.dst (.agg c) = a1) (hK : K a1) : o.quiet Try.prog a C K :=
  quiet_load_row 43 x ho g hx 43 c (0, 0) _ Try.underlying43 rfl (by rw [hl]; kernel_rfl) h ha hK
/-- A pacer beside the reference's. -/
structure PJ (w : World) (base g gb rg rgb : Nat) (vk : List Value) (v' : Value) (T : PcS) (L : PL) : Prop where
  pac : PacV w base g gb vk T
  ref : RpV w base rg (.pointer (some ⟨rgb, 0, none⟩)) T.packets T.bytes v' L T.gone
  bk : Rb w rgb T.rate T.burst T.hav
  dis : ∀ k ∈ blks vk, v'.ownBlock ≠ some k
theorem PJ.bw {w w' : World} {base g gb rg rgb : Nat} {vk : List Value} {v' : Value} {T : PcS} {L : PL} (h : PJ w base g gb rg rgb vk v' T L) (hb : BW w w') : PJ w' base g gb rg rgb vk v' T L := ⟨h.pac.bw hb, h.ref.bw hb, h.bk.bw hb, h.dis⟩
theorem PacV.blk_ne {w : World} {base g gb : Nat} {vs : List Value} {S : PcS} (h : PacV w base g gb vs S) {b : Nat} {cs : Array Value} {t : TypeId} {fr : Nat × Nat} (hb : w.heap[b]? = some (.cells cs t fr)) (ht : t ≠ 43) : b ∉ blks vs := fun hm => by
  obtain ⟨u, hu, hk⟩ := List.mem_flatMap.1 hm
  obtain ⟨i, hi, e⟩ := List.mem_iff_getElem.1 hu
  have h1 := h.pq i (by rw [← h.vl]; exact hi)
  rw [List.getD_eq_getElem?_getD, List.getElem?_eq_getElem hi] at h1
  refine h1.ne hb ht b ?_ rfl
  show vs[i].ownBlock = some b
  rw [e]
  simpa using hk
theorem PacV.blk_noB {w : World} {base g gb : Nat} {vs : List Value} {S : PcS} (h : PacV w base g gb vs S) : ∀ k ∈ blks vs, NoB w k := fun k hm => by
  obtain ⟨u, hu, hk⟩ := List.mem_flatMap.1 hm
  obtain ⟨i, hi, e⟩ := List.mem_iff_getElem.1 hu
  have h1 := h.pq i (by rw [← h.vl]; exact hi)
  rw [List.getD_eq_getElem?_getD, List.getElem?_eq_getElem hi] at h1
  refine h1.noB k ?_
  show k ∈ vs[i].ownBlock.toList
  rw [e]; exact hk
/-- What the pacer's own step leaves of the reference's. -/
theorem PJ.refSt {w w' : World} {base g gb rg rgb : Nat} {vk : List Value} {v' : Value} {T : PcS} {L : PL} (h : PJ w base g gb rg rgb vk v' T L) {S : List Nat} (hs : Still S w w') (hS : ∀ k ∈ S, k = g ∨ k = gb ∨ k ∈ blks vk) :
    RpV w' base rg (.pointer (some ⟨rgb, 0, none⟩)) T.packets T.bytes v' L T.gone ∧ Rb w' rgb T.rate T.burst T.hav := by
  have hno : ∀ k ∈ S, NoB w k := fun k hk => by
    rcases hS k hk with rfl | rfl | h1
    · exact h.pac.noB2 _ (by simp)
    · exact h.pac.noB2 _ (by simp)
    · exact h.pac.blk_noB k h1
  have n1 : ∀ (b : Nat) (cs : Array Value) (t : TypeId) (fr : Nat × Nat), w.heap[b]? = some (.cells cs t fr) → t ≠ 43 → t ≠ 97 → t ≠ 145 → b ∉ S := fun b cs t fr hb t1 t2 t3 hm => by
    rcases hS b hm with rfl | rfl | h1
    · exact hp_ne hb h.pac.cells t2 rfl
    · exact hp_ne hb h.pac.bk t3 rfl
    · exact h.pac.blk_ne hb t1 h1
  refine ⟨h.ref.still hs hno (n1 _ _ _ _ h.ref.cells (by decide) (by decide) (by decide)) fun k hk hm => ?_, h.bk.st hs (n1 _ _ _ _ h.bk (by decide) (by decide) (by decide))⟩
  rcases hS k hm with rfl | rfl | h1
  · exact h.ref.pq.ne h.pac.cells (by decide) k hk rfl
  · exact h.ref.pq.ne h.pac.bk (by decide) k hk rfl
  · exact h.dis k h1 hk
/-- What the reference's step leaves of the pacer. -/
theorem PacV.refSt {w w' : World} {base g gb rg rgb : Nat} {vk : List Value} {T : PcS} {bp v' : Value} {pk by_ r u hv : Int} {L : PL} {gone : Nat} (h : PacV w base g gb vk T) (hr : RpV w base rg bp pk by_ v' L gone) (hb : Rb w rgb r u hv) {S : List Nat} (hs : Still S w w') (hS : ∀ k ∈ S, k = rg ∨ k = rgb) : PacV w' base g gb vk T := by
  have n1 : ∀ (b : Nat) (cs : Array Value) (t : TypeId) (fr : Nat × Nat), w.heap[b]? = some (.cells cs t fr) → t ≠ 61 → t ≠ 109 → b ∉ S := fun b cs t fr hx t1 t2 hm => by
    rcases hS b hm with rfl | rfl
    · exact hp_ne hx hr.cells t1 rfl
    · exact hp_ne hx hb t2 rfl
  refine h.still hs (fun k hk => ?_) (n1 _ _ _ _ h.cells (by decide) (by decide)) (n1 _ _ _ _ h.bk (by decide) (by decide)) fun c hc k hk hm => ?_
  · rcases hS k hk with rfl | rfl
    · exact hr.noB _ (by simp)
    · exact hb.noB _ (by simp)
  · rcases hS k hm with rfl | rfl
    · exact (h.pq c hc).ne hr.cells (by decide) k hk rfl
    · exact (h.pq c hc).ne hb (by decide) k hk rfl
theorem PQ.refSt {w w' : World} {base rg rgb : Nat} {v : Value} {n : Nat} {l : PL} {bp v' : Value} {pk by_ r u hv : Int} {L : PL} {gone : Nat} (h : PQ w base v n l) (hr : RpV w base rg bp pk by_ v' L gone) (hb : Rb w rgb r u hv) {S : List Nat} (hs : Still S w w') (hS : ∀ k ∈ S, k = rg ∨ k = rgb) : PQ w' base v n l := by
  refine h.still hs (fun k hk => ?_) fun k hk hm => ?_
  · rcases hS k hk with rfl | rfl
    · exact hr.noB _ (by simp)
    · exact hb.noB _ (by simp)
  · rcases hS k hm with rfl | rfl
    · exact h.ne hr.cells (by decide) k hk rfl
    · exact h.ne hb (by decide) k hk rfl

theorem try_le (pk by_ : Int) (n : Nat) (c : Int) : ∀ (f : Nat) (L : PL) (g : Nat) (L' : PL) (g' : Nat), tryR pk by_ n c f L g = some (L', g') → L'.length ≤ L.length ∧ lensL L' ≤ lensL L ∧ g' + L'.length = g + L.length
  | 0, _, _, _, _, h => by cases h
  | f + 1, L, g, L', g', h => by
    unfold tryR at h
    split at h
    · simp only [Option.some.injEq, Prod.mk.injEq] at h
      obtain ⟨rfl, rfl⟩ := h
      exact ⟨Nat.le_refl _, Nat.le_refl _, rfl⟩
    · have hi := lastR_is c L L.length
      cases hl : lastR c L L.length with
      | none => rw [hl] at h; cases h
      | some a =>
        rw [hl] at h hi
        have ha : a < L.length := hi.1
        obtain ⟨h1, h2, h3⟩ := try_le pk by_ n c f _ _ _ _ h
        have h4 : (L.eraseIdx a).length + 1 = L.length := by rw [List.length_eraseIdx, if_pos ha]; omega
        have h5 := lensL_erase L a
        exact ⟨by omega, by omega, by omega⟩
theorem rpush_le (u pk by_ : Int) (L : PL) (gone : Nat) (cls : Int) (b : List Nat) : (rpushN u pk by_ L gone cls b).2.1.length ≤ L.length + 1 ∧ lensL (rpushN u pk by_ L gone cls b).2.1 ≤ lensL L + b.length ∧ (rpushN u pk by_ L gone cls b).2.2 + (rpushN u pk by_ L gone cls b).2.1.length ≤ gone + L.length + 1 := by
  unfold rpushN
  split
  · exact ⟨by dsimp only; omega, by dsimp only; omega, by dsimp only; omega⟩
  split
  · exact ⟨by dsimp only; omega, by dsimp only; omega, by dsimp only; omega⟩
  cases h : tryR pk by_ b.length cls (L.length + 1) L 0 with
  | none => exact ⟨by dsimp only [rp2]; omega, by dsimp only [rp2]; omega, by dsimp only [rp2]; omega⟩
  | some x =>
    obtain ⟨L', g⟩ := x
    obtain ⟨h1, h2, h3⟩ := try_le _ _ _ _ _ _ _ _ _ h
    dsimp only [rp2]
    rw [lensL_snoc, List.length_append, List.length_singleton]
    exact ⟨by omega, by omega, by omega⟩
end Go.Proofs.Ytgiajnfmjpdodaa
