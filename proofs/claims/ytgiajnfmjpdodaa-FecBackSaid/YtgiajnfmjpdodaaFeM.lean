/- Covers of packets: the document's example. No condition. -/
import Derived.Test.YtgiajnfmjpdodaaFeL
import Derived.Test.YtgiajnfmjpdodaaBst
namespace Go.Proofs.Ytgiajnfmjpdodaa
open Go.RowKit

def dA (s : Nat) : RtpD := ⟨false, 0, s, 0, 0, [], false, 0, [], [], 0⟩
theorem dA_wf {s : Nat} (h : s < 65536) : RtpWf (dA s) where
  typ := (by decide : 0 < 256)
  seq := h
  stamp := (by decide : 0 < 4294967296)
  source := (by decide : 0 < 4294967296)
  others := fun x hx => by cases hx
  profile := (by decide : 0 < 65536)
  extra := fun x hx => by cases hx
  payload := fun x hx => by cases hx
  pad := (by decide : 0 < 256)
def cA (s : Nat) : Array Value := rtpC false 0 s 0 0 (.slice none 0 0) false 0 (.slice none 0 0) (.slice none 0 0) 0
theorem cA_v (w : World) (s : Nat) : RtpV w (cA s) (dA s) := ⟨_, _, _, rfl, (NO.nil w 0 25 .u32).nb, (OB.nil w 0 5).sb, (OB.nil w 0 5).sb⟩
theorem RL.lit2 (w : World) (s t : Nat) (hs : s < 65536) (ht : t < 65536) : RL (w.alloc (.cells ((cA s).toList ++ (cA t).toList).toArray 28)) (.slice (some ⟨w.heap.size, 0, none⟩) 2 2) 2 [dA s, dA t] := by
  refine ⟨rfl, ⟨_, _, rfl, Nat.le_refl _, by decide⟩, fun _ => ⟨w.heap.size, 0, 2, rfl, fun i hi => ?_⟩, fun d hd => ?_⟩
  · have hx := fun k => hp_cell (HpB.new w (.cells ((cA s).toList ++ (cA t).toList).toArray 28)) k
    rcases (show i = 0 ∨ i = 1 by simp at hi; omega) with rfl | rfl
    · refine ⟨cA s, cA_v _ _, fun j hj => ?_⟩
      rw [hx, List.getElem?_toArray, List.getElem?_append_left (by show 0 + 0 * 11 + j < 11; omega)]
      rw [show 0 + 0 * 11 + j = j by omega]
      exact Array.getElem?_toList
    · refine ⟨cA t, cA_v _ _, fun j hj => ?_⟩
      rw [hx, List.getElem?_toArray, List.getElem?_append_right (by show 11 ≤ 0 + 1 * 11 + j; omega)]
      rw [show 0 + 1 * 11 + j - (cA s).toList.length = j by show 0 + 1 * 11 + j - 11 = j; omega]
      exact Array.getElem?_toList
  · rcases List.mem_cons.1 hd with rfl | hd
    · exact dA_wf hs
    · rcases List.mem_cons.1 hd with rfl | hd
      · exact dA_wf ht
      · cases hd
def aC : List Nat := [0, 5, 0, 3, 0, 0, 0, 0, 0, 3, 0, 0, 0, 0, 0, 0, 0, 0]
theorem aC_make : makeN [dA 5, dA 6] = some aC := by kernel_rfl
theorem aC_four : bstr (aC.take 4) = { data := #[0, 5, 0, 3] } := by kernel_rfl

set_option maxRecDepth 100000 in
set_option maxHeartbeats 8000000 in
theorem fec_alive (w : World) : Calls Try.prog 36 #[] w fun e w' => e = .returned (.bool true) ∧ BW w w' := by
  have R0 := RL.lit2 w 5 6 (by decide) (by decide)
  have c0 := Lib.hid (make_any _ _ _ _ R0 (by decide) (fun d hd => by rcases List.mem_cons.1 hd with rfl | hd; exact Nat.zero_le _; rcases List.mem_cons.1 hd with rfl | hd; exact Nat.zero_le _; cases hd))
  unfold MakePost at c0
  rw [aC_make] at c0
  have hl : aC.length = 18 := rfl
  have B0 : BW w (w.alloc (.cells ((cA 5).toList ++ (cA 6).toList).toArray 28)) := (BW.refl _).alloc
  have e0 : ((cA 5).toList ++ (cA 6).toList).toArray = #[.bool false, .int .u8 0, .int .u16 5, .int .u32 0, .int .u32 0, .slice none 0 0, .bool false, .int .u16 0, .slice none 0 0, .slice none 0 0, .int .u8 0, .bool false, .int .u8 0, .int .u16 6, .int .u32 0, .int .u32 0, .slice none 0 0, .bool false, .int .u16 0, .slice none 0 0, .slice none 0 0, .int .u8 0] := rfl
  have h4 := aC_four
  rw [e0] at c0 B0
  clear R0 e0
  generalize aC = X at *
  replace B0 := Lib.hid B0
  replace hl := Lib.hid hl
  replace h4 := Lib.hid h4
  go_enter Try.func36, Try.ntmps36
  go_wp2_with fail
  refine Calls.mono c0.out ?_
  rintro e w1 ⟨hr, hb⟩
  have B1 := Lib.hid (B0.out.trans hb)
  clear c0 B0 hb
  rcases hr with ⟨b, v, he, rfl, O⟩ | ⟨he, _⟩
  case inr => cases he
  obtain rfl : X = b := Option.some.inj he
  rw [hl.out] at O
  obtain ⟨b1, o1, c1, rfl, _, _, hc1, hm1, _, _⟩ := O.form (by decide)
  unfold maxLen at hm1
  have S4 := (O.takeN 4 (by decide)).sb
  have k1 := conv_sb S4
  rw [h4.out] at k1
  have hc4 : (4 : Int) ≤ (c1 : Int) := by omega
  clear S4 O he h4 hl
  dsimp only
  go_wp2_with fail
  go_ret
  exact ⟨rfl, B1.out⟩
end Go.Proofs.Ytgiajnfmjpdodaa
