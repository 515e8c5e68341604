/- rtcp's body of a packet, gone along: need, counted, num, word. No condition. -/
import Derived.Test.YtcempndfbckcaaaNum
import Derived.Test.YtcempndfbckcaaaCut
import Derived.Test.YtcempndfbckcaaaApO
namespace Go.Proofs.Ytcempndfbckcaaa
open Go.RowKit

set_option maxRecDepth 100000 in
set_option maxHeartbeats 8000000 in
theorem need_ok (w : World) : Calls Try.prog 90 #[.bool true] w fun e w' => e = .returned (.tuple #[]) ∧ w = w' := by
  go_enter Try.func90, Try.ntmps90
  go_wp2
  go_end0
  exact ⟨rfl, rfl⟩
set_option maxRecDepth 100000 in
set_option maxHeartbeats 8000000 in
theorem counted_ok (n : Nat) (hn : n ≤ 16) (w : World) : Calls Try.prog 147 #[.int .i64 (n : Nat)] w fun e w' => e = .returned (.int .i64 (n : Nat)) ∧ w = w' := by
  have d : decide ((n : Int) ≤ 16) = true := by simp; omega
  go_enter Try.func147, Try.ntmps147
  go_wp2_with fail
  refine Calls.mono (need_ok w) ?_
  rintro e w' ⟨rfl, rfl⟩
  dsimp only
  go_wp2_with fail
  go_ret
  exact ⟨rfl, rfl⟩

/-- A body at block g: its count, the bytes that are left. -/
def BdV (w : World) (base g cnt : Nat) (l : List Nat) : Prop := ∃ v, HpB w g (.cells #[.int .i64 (cnt : Nat), v] 198) ∧ OB w base 5 v l.length l
theorem BdV.bw {w w' : World} {base g cnt : Nat} {l : List Nat} (h : BdV w base g cnt l) (hb : BW w w') : BdV w' base g cnt l := by
  obtain ⟨v, h1, h2⟩ := h
  exact ⟨v, h1.bw hb, h2.bw hb⟩
theorem BdV.row {w : World} {base g cnt : Nat} {l : List Nat} (h : BdV w base g cnt l) : ∃ cs, w.heap[g]? = some (.cells cs 198 (0, 0)) := by
  obtain ⟨v, h1, _⟩ := h
  exact ⟨_, h1⟩
theorem still_scB (w : World) (g o : Nat) (v : Value) : Still [g] w (w.setCell ⟨g, o, none⟩ v) := by
  refine ⟨rfl, rfl, rfl, by simp [World.setCell], fun k _ hk => ?_⟩
  exact hp_oth (by simpa using hk)

set_option maxRecDepth 100000 in
set_option maxHeartbeats 8000000 in
theorem bnum_ok (base g cnt n : Nat) (l : List Nat) (hn1 : 1 ≤ n) (hn8 : n ≤ 8) (hnl : n ≤ l.length) (hlen : l.length ≤ 1000000000000) (w : World) (hr : BdV w base g cnt l) :
    Calls Try.prog 145 #[.pointer (some ⟨g, 0, none⟩), .int .i64 (n : Nat)] w fun e w' => e = .returned (.int .u64 (numB (l.take n) : Nat)) ∧ BdV w' base g cnt (l.drop n) ∧ Still [g] w w' := by
  obtain ⟨v, H, O⟩ := hr
  obtain ⟨sa, cap, rfl, hcap, hm⟩ := O.len
  unfold maxLen at hm
  have O1 := O.cut n l.length cap hnl (Nat.le_refl _) hcap (Nat.le_refl _)
  have ht : (l.drop n).take (l.length - n) = l.drop n := List.take_of_length_le (by rw [List.length_drop]; omega)
  rw [ht] at O1
  have cn := fun wz hv => Lib.hid (num_ok (.slice sa l.length cap) l.length l 0 n 0 n hn1 hn8 (by omega) rfl rfl wz hv)
  simp only [List.drop_zero] at cn
  have hcut := fun w => run_cut_l (P := Try.prog) Try.underlying36 info_u8 sa l.length cap n (n : Int) rfl .i64 hnl w
  have hd : (l.drop n).length = l.length - n := List.length_drop
  generalize numB (l.take n) = x at *
  generalize hll : l.length = len at *
  generalize l.drop n = r at *
  have c0 := hp_cell H 1
  simp only [List.getElem?_toArray, List.getElem?_cons_succ, List.getElem?_cons_zero] at c0
  have f0 := hp_frz H 1
  have H1 : Hid (HpB (w.setCell ⟨g, 1, none⟩ (.slice (cutA sa n cap 1) (len - n) (cap - n))) g (.cells #[.int .i64 (cnt : Nat), .slice (cutA sa n cap 1) (len - n) (cap - n)] 198)) := hp_set H 1 _
  have T1 := Lib.hid (still_scB w g 1 (.slice (cutA sa n cap 1) (len - n) (cap - n)))
  have V := Lib.hid O.sb
  have O2 := Lib.hid (O1.still T1.out (fun k hk hm => O1.2.2.ne H (by decide) k hk (by simpa using hm)))
  replace H := Lib.hid H
  replace O := Lib.hid O
  replace O1 := Lib.hid O1
  replace hd := Lib.hid hd
  go_enter Try.func145, Try.ntmps145
  go_wp2_with fail
  refine Calls.mono (cn w V.out).out ?_
  rintro e w1 ⟨rfl, rfl⟩
  dsimp only
  go_wp2_with fail
  refine Calls.mono (need_ok w) ?_
  rintro e w' ⟨rfl, rfl⟩
  dsimp only
  go_wp2_with fail
  go_ret
  refine ⟨rfl, ⟨_, H1.out, ?_⟩, T1.out⟩
  rw [hd.out]
  exact O2.out

theorem BdV.byL {w : World} {base g cnt : Nat} {l : List Nat} (h : BdV w base g cnt l) : ByL l := by
  obtain ⟨v, _, h2⟩ := h
  exact h2.2.1
theorem numB_take_lt {l : List Nat} (h : ByL l) (n : Nat) (hn : n ≤ l.length) : numB (l.take n) < 256 ^ n := by
  have := numB_lt (l.take n) (fun x hx => h x (List.mem_of_mem_take hx))
  rwa [List.length_take, Nat.min_eq_left hn] at this
set_option maxRecDepth 100000 in
set_option maxHeartbeats 8000000 in
theorem bword_ok (base g cnt : Nat) (l : List Nat) (hnl : 4 ≤ l.length) (hlen : l.length ≤ 1000000000000) (w : World) (hr : BdV w base g cnt l) :
    Calls Try.prog 144 #[.pointer (some ⟨g, 0, none⟩)] w fun e w' => e = .returned (.int .u32 (numB (l.take 4) : Nat)) ∧ BdV w' base g cnt (l.drop 4) ∧ Still [g] w w' := by
  have c := Lib.hid (bnum_ok base g cnt 4 l (by omega) (by omega) hnl hlen w hr)
  have hlt := numB_take_lt hr.byL 4 hnl
  generalize numB (l.take 4) = x at *
  have hw : IntKind.u32.wrap (x : Int) = (x : Nat) := IntWalk.u32_in _ (by omega)
  clear hlt
  go_enter Try.func144, Try.ntmps144
  go_wp2_with fail
  refine Calls.mono c.out ?_
  rintro e w1 ⟨rfl, hb, ht⟩
  dsimp only
  go_wp2_with fail
  go_ret
  exact ⟨rfl, hb, ht⟩
end Go.Proofs.Ytcempndfbckcaaa
