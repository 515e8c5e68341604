/-  -/
import Derived.Test.YtikmhlbpefednaaGreatAesI
import Derived.Test.YtikmhlbpefednaaGreatStp
namespace Go.Proofs.YtikmhlbpefednaaGreat
open Go.RowKit
theorem ivA_append (k : IntKind) (a b : List Nat) : ivA k a ++ ivA k b = ivA k (a ++ b) := by simp [ivA]
theorem built_cipher (W : List Nat) (hW : W.length = 176) : Tryz.prog.built 252 [(0, .agg (ivA .u8 sbox)), (1, .agg (ivA .u8 W))] = some (ivA .u8 (sbox ++ W)) := by
 have e : ∀ parts, Tryz.prog.built 252 parts = Instr.fill (fun i => #[(0, 256), (256, 176)][i]?) (ivA .u8 (zeros 432)) parts := fun parts => by kernel_rfl
 rw [e, fill_two _ _ _ 256 176 (by rw [ivA_size, sbox_len]) (by rw [ivA_size, hW]) (by rw [ivA_size, zeros_len]), ivA_append]
set_option maxRecDepth 100000 in
set_option maxHeartbeats 2000000 in
theorem aesNew_any (key : List Nat) (hk : key.length = 16) (hB : Byt key) (w : World) :
  Calls Tryz.prog 139 #[.agg (ivA .u8 key)] w fun e w' => ∃ g, e = .returned (.pointer (some ⟨g, 0, none⟩)) ∧ w.heap.size ≤ g ∧ Cf w' g (wordsN key) ∧ Below w.heap.size w w' := by
 replace hk := Lib.hid hk
 replace hB := Lib.hid hB
 go_enter Tryz.func139, Tryz.ntmps139
 go_wp2_with fail
 refine (box_any _).mono ?_
 rintro e w1 ⟨rfl, hb1⟩
 have L1 : Below w.heap.size w w1 := ((Below.refl _ _).alloc (Nat.le_refl _) _).trans (hb1.mono (by simp))
 have H0 := Lib.hid ((hb1.block w.heap.size (by simp)).trans (al_new w (.cells (ivA .u8 key) 22) _ rfl))
 have hz1 : w.heap.size < w1.heap.size := by have := hb1.size; simp at this; omega
 clear hb1
 have hnew := Lib.hid (al_new w1 (.cells (ivA .u8 (zeros 256)) 247) _ rfl)
 go_wp2_with (first | (refine wpList_alloc_of rfl 247 rfl _ zero256 ?_) | (refine wpList_store_row rfl 247 _ _ rfl _ _ rfl rfl _ _ hnew.out (by rw [info256, ivA_size, sbox_len]) (by rw [ivA_size, ivA_size, zeros_len, sbox_len]) (ivA_one _ _) ?_))
 rw [World.setRow_alloc_new]
 generalize hw0 : World.alloc w1 (.cells (ivA .u8 sbox) 247) = w0
 have hS0 : Hid (Below w.heap.size w w0.drew ∧ w0.drew.heap[w.heap.size]? = some (.cells (ivA .u8 key) 22 (0, 0)) ∧ w0.drew.heap[w1.heap.size]? = some (.cells (ivA .u8 sbox) 247 (0, 0))) := by
  refine Lib.hid ?_
  rw [← hw0]
  exact ⟨(L1.alloc (by omega) _).drew, (al_old _ _ _ hz1).trans H0.out, al_new _ _ _ rfl⟩
 have hS : ∀ wx : World, Hid (Below w.heap.size w wx ∧ wx.heap[w.heap.size]? = some (.cells (ivA .u8 key) 22 (0, 0)) ∧ wx.heap[w1.heap.size]? = some (.cells (ivA .u8 sbox) 247 (0, 0))) → _ := fun wx h => h.out
 have hz0 : w0.heap.size = w1.heap.size + 1 := by rw [← hw0]; simp
 have hS1 : ∀ wx : World, Hid (Below w0.drew.heap.size w0.drew wx) → Hid (Below w.heap.size w wx ∧ wx.heap[w.heap.size]? = some (.cells (ivA .u8 key) 22 (0, 0)) ∧ wx.heap[w1.heap.size]? = some (.cells (ivA .u8 sbox) 247 (0, 0))) := fun wx h => by
  have hb := h.out
  obtain ⟨s1, s2, s3⟩ := hS0.out
  have e : w0.drew.heap.size = w1.heap.size + 1 := hz0
  exact Lib.hid ⟨s1.trans (hb.mono (by omega)), (hb.block _ (by omega)).trans s2, (hb.block _ (by omega)).trans s3⟩
 replace hz0 := Lib.hid hz0
 clear hw0
 refine wp_region_any (by kernel_rfl) ?_
 change wpAny _ _ _ _ _ _ _ (World.drew _)
 refine wpAny_ready (rs := [0, 1, 2]) (by kernel_rfl) (by simp) (AllReady.cons rfl (fun K hK => ?_) (AllReady.cons rfl (fun K hK => ?_) (AllReady.cons rfl (fun K hK => ?_) AllReady.nil)))
 ·refine step_load_row rfl (.tmp 3) 247 rfl w1.heap.size rfl _ _ _ _ _ (hS _ (by assumption)).2.2 Tryz.underlying247 (by rw [info256, ivA_size, sbox_len]) (hK _ _ ?_)
  clear hK K
  refine wpAny_ready (rs := [1, 2]) (by kernel_rfl) (by simp) (AllReady.cons rfl (fun K hK => ?_) (AllReady.cons rfl (fun K hK => ?_) AllReady.nil))
  ·refine step_load_row rfl (.tmp 3) 247 rfl w1.heap.size rfl _ _ _ _ _ (hS _ (by assumption)).2.2 Tryz.underlying247 (by rw [info256, ivA_size, sbox_len]) (hK _ _ ?_)
   clear hK K
   refine wpAny_ready (rs := [2]) (by kernel_rfl) (by simp) (AllReady.cons rfl (fun K hK => ?_) AllReady.nil)
   refine step_load_row rfl (.tmp 1) 22 rfl w.heap.size rfl _ _ _ _ _ (hS _ (by assumption)).2.1 Tryz.underlying22 (by rw [info16, ivA_size, hk.out]) (hK _ _ ?_)
   clear hK K
   refine wpAny_ready (rs := [3]) (by kernel_rfl) (by simp) (AllReady.cons rfl (fun K hK => ?_) AllReady.nil)
   go_simp
   go_at_call 152
   refine (words_any key hk.out hB.out _).mono ?_
   rintro e w2 ⟨rfl, hb2⟩
   have hS2 := hS1 w2 (Lib.hid hb2)
   refine hK _ _ ?_
   clear hK K
   refine wpAny_ready (rs := [4]) (by kernel_rfl) (by simp) (AllReady.cons rfl (fun K hK => ?_) AllReady.nil)
   refine step_build rfl 252 [(0, .tmp 5), (1, .tmp 8)] rfl _ (built_cipher (wordsN key) (wordsN_len key hk.out)) (hK _ _ ?_)
   clear hK K
   refine wpAny_ready (rs := [5]) (by kernel_rfl) (by simp) (AllReady.cons rfl (fun K hK => ?_) AllReady.nil)
   refine step_box rfl 252 (.tmp 9) rfl (ivA .u8 (sbox ++ wordsN key)) rfl (hK _ _ ?_)
   clear hK K
   refine wpAny_ready (rs := [6]) (by kernel_rfl) (by simp) (AllReady.cons rfl (fun K hK => ?_) AllReady.nil)
   go_simp
   refine hK _ _ ?_
   clear hK K
   refine wpAny_done (by kernel_rfl) ?_ _
   go_wp2_with fail
   go_ret
   refine ⟨w2.heap.size, rfl, by have := hS2.out.1.size; omega, ⟨al_new _ _ _ rfl, wordsN_len key hk.out, wordsN_byt key hB.out⟩, hS2.out.1.alloc (by have := hS2.out.1.size; omega) _⟩
  ·refine step_load_row rfl (.tmp 1) 22 rfl w.heap.size rfl _ _ _ _ _ (hS _ (by assumption)).2.1 Tryz.underlying22 (by rw [info16, ivA_size, hk.out]) (hK _ _ ?_)
   clear hK K
   refine wpAny_ready (rs := [1]) (by kernel_rfl) (by simp) (AllReady.cons rfl (fun K hK => ?_) AllReady.nil)
   refine step_load_row rfl (.tmp 3) 247 rfl w1.heap.size rfl _ _ _ _ _ (hS _ (by assumption)).2.2 Tryz.underlying247 (by rw [info256, ivA_size, sbox_len]) (hK _ _ ?_)
   clear hK K
   refine wpAny_ready (rs := [3]) (by kernel_rfl) (by simp) (AllReady.cons rfl (fun K hK => ?_) AllReady.nil)
   go_simp
   go_at_call 152
   refine (words_any key hk.out hB.out _).mono ?_
   rintro e w2 ⟨rfl, hb2⟩
   have hS2 := hS1 w2 (Lib.hid hb2)
   refine hK _ _ ?_
   clear hK K
   refine wpAny_ready (rs := [4]) (by kernel_rfl) (by simp) (AllReady.cons rfl (fun K hK => ?_) AllReady.nil)
   refine step_build rfl 252 [(0, .tmp 5), (1, .tmp 8)] rfl _ (built_cipher (wordsN key) (wordsN_len key hk.out)) (hK _ _ ?_)
   clear hK K
   refine wpAny_ready (rs := [5]) (by kernel_rfl) (by simp) (AllReady.cons rfl (fun K hK => ?_) AllReady.nil)
   refine step_box rfl 252 (.tmp 9) rfl (ivA .u8 (sbox ++ wordsN key)) rfl (hK _ _ ?_)
   clear hK K
   refine wpAny_ready (rs := [6]) (by kernel_rfl) (by simp) (AllReady.cons rfl (fun K hK => ?_) AllReady.nil)
   go_simp
   refine hK _ _ ?_
   clear hK K
   refine wpAny_done (by kernel_rfl) ?_ _
   go_wp2_with fail
   go_ret
   refine ⟨w2.heap.size, rfl, by have := hS2.out.1.size; omega, ⟨al_new _ _ _ rfl, wordsN_len key hk.out, wordsN_byt key hB.out⟩, hS2.out.1.alloc (by have := hS2.out.1.size; omega) _⟩
 ·refine step_load_row rfl (.tmp 3) 247 rfl w1.heap.size rfl _ _ _ _ _ (hS _ (by assumption)).2.2 Tryz.underlying247 (by rw [info256, ivA_size, sbox_len]) (hK _ _ ?_)
  clear hK K
  refine wpAny_ready (rs := [0, 2]) (by kernel_rfl) (by simp) (AllReady.cons rfl (fun K hK => ?_) (AllReady.cons rfl (fun K hK => ?_) AllReady.nil))
  ·refine step_load_row rfl (.tmp 3) 247 rfl w1.heap.size rfl _ _ _ _ _ (hS _ (by assumption)).2.2 Tryz.underlying247 (by rw [info256, ivA_size, sbox_len]) (hK _ _ ?_)
   clear hK K
   refine wpAny_ready (rs := [2]) (by kernel_rfl) (by simp) (AllReady.cons rfl (fun K hK => ?_) AllReady.nil)
   refine step_load_row rfl (.tmp 1) 22 rfl w.heap.size rfl _ _ _ _ _ (hS _ (by assumption)).2.1 Tryz.underlying22 (by rw [info16, ivA_size, hk.out]) (hK _ _ ?_)
   clear hK K
   refine wpAny_ready (rs := [3]) (by kernel_rfl) (by simp) (AllReady.cons rfl (fun K hK => ?_) AllReady.nil)
   go_simp
   go_at_call 152
   refine (words_any key hk.out hB.out _).mono ?_
   rintro e w2 ⟨rfl, hb2⟩
   have hS2 := hS1 w2 (Lib.hid hb2)
   refine hK _ _ ?_
   clear hK K
   refine wpAny_ready (rs := [4]) (by kernel_rfl) (by simp) (AllReady.cons rfl (fun K hK => ?_) AllReady.nil)
   refine step_build rfl 252 [(0, .tmp 5), (1, .tmp 8)] rfl _ (built_cipher (wordsN key) (wordsN_len key hk.out)) (hK _ _ ?_)
   clear hK K
   refine wpAny_ready (rs := [5]) (by kernel_rfl) (by simp) (AllReady.cons rfl (fun K hK => ?_) AllReady.nil)
   refine step_box rfl 252 (.tmp 9) rfl (ivA .u8 (sbox ++ wordsN key)) rfl (hK _ _ ?_)
   clear hK K
   refine wpAny_ready (rs := [6]) (by kernel_rfl) (by simp) (AllReady.cons rfl (fun K hK => ?_) AllReady.nil)
   go_simp
   refine hK _ _ ?_
   clear hK K
   refine wpAny_done (by kernel_rfl) ?_ _
   go_wp2_with fail
   go_ret
   refine ⟨w2.heap.size, rfl, by have := hS2.out.1.size; omega, ⟨al_new _ _ _ rfl, wordsN_len key hk.out, wordsN_byt key hB.out⟩, hS2.out.1.alloc (by have := hS2.out.1.size; omega) _⟩
  ·refine step_load_row rfl (.tmp 1) 22 rfl w.heap.size rfl _ _ _ _ _ (hS _ (by assumption)).2.1 Tryz.underlying22 (by rw [info16, ivA_size, hk.out]) (hK _ _ ?_)
   clear hK K
   refine wpAny_ready (rs := [0, 3]) (by kernel_rfl) (by simp) (AllReady.cons rfl (fun K hK => ?_) (AllReady.cons rfl (fun K hK => ?_) AllReady.nil))
   ·refine step_load_row rfl (.tmp 3) 247 rfl w1.heap.size rfl _ _ _ _ _ (hS _ (by assumption)).2.2 Tryz.underlying247 (by rw [info256, ivA_size, sbox_len]) (hK _ _ ?_)
    clear hK K
    refine wpAny_ready (rs := [3]) (by kernel_rfl) (by simp) (AllReady.cons rfl (fun K hK => ?_) AllReady.nil)
    go_simp
    go_at_call 152
    refine (words_any key hk.out hB.out _).mono ?_
    rintro e w2 ⟨rfl, hb2⟩
    have hS2 := hS1 w2 (Lib.hid hb2)
    refine hK _ _ ?_
    clear hK K
    refine wpAny_ready (rs := [4]) (by kernel_rfl) (by simp) (AllReady.cons rfl (fun K hK => ?_) AllReady.nil)
    refine step_build rfl 252 [(0, .tmp 5), (1, .tmp 8)] rfl _ (built_cipher (wordsN key) (wordsN_len key hk.out)) (hK _ _ ?_)
    clear hK K
    refine wpAny_ready (rs := [5]) (by kernel_rfl) (by simp) (AllReady.cons rfl (fun K hK => ?_) AllReady.nil)
    refine step_box rfl 252 (.tmp 9) rfl (ivA .u8 (sbox ++ wordsN key)) rfl (hK _ _ ?_)
    clear hK K
    refine wpAny_ready (rs := [6]) (by kernel_rfl) (by simp) (AllReady.cons rfl (fun K hK => ?_) AllReady.nil)
    go_simp
    refine hK _ _ ?_
    clear hK K
    refine wpAny_done (by kernel_rfl) ?_ _
    go_wp2_with fail
    go_ret
    refine ⟨w2.heap.size, rfl, by have := hS2.out.1.size; omega, ⟨al_new _ _ _ rfl, wordsN_len key hk.out, wordsN_byt key hB.out⟩, hS2.out.1.alloc (by have := hS2.out.1.size; omega) _⟩
   ·go_simp
    go_at_call 152
    refine (words_any key hk.out hB.out _).mono ?_
    rintro e w2 ⟨rfl, hb2⟩
    have hS2 := hS1 w2 (Lib.hid hb2)
    refine hK _ _ ?_
    clear hK K
    refine wpAny_ready (rs := [0]) (by kernel_rfl) (by simp) (AllReady.cons rfl (fun K hK => ?_) AllReady.nil)
    refine step_load_row rfl (.tmp 3) 247 rfl w1.heap.size rfl _ _ _ _ _ (hS _ (by assumption)).2.2 Tryz.underlying247 (by rw [info256, ivA_size, sbox_len]) (hK _ _ ?_)
    clear hK K
    refine wpAny_ready (rs := [4]) (by kernel_rfl) (by simp) (AllReady.cons rfl (fun K hK => ?_) AllReady.nil)
    refine step_build rfl 252 [(0, .tmp 5), (1, .tmp 8)] rfl _ (built_cipher (wordsN key) (wordsN_len key hk.out)) (hK _ _ ?_)
    clear hK K
    refine wpAny_ready (rs := [5]) (by kernel_rfl) (by simp) (AllReady.cons rfl (fun K hK => ?_) AllReady.nil)
    refine step_box rfl 252 (.tmp 9) rfl (ivA .u8 (sbox ++ wordsN key)) rfl (hK _ _ ?_)
    clear hK K
    refine wpAny_ready (rs := [6]) (by kernel_rfl) (by simp) (AllReady.cons rfl (fun K hK => ?_) AllReady.nil)
    go_simp
    refine hK _ _ ?_
    clear hK K
    refine wpAny_done (by kernel_rfl) ?_ _
    go_wp2_with fail
    go_ret
    refine ⟨w2.heap.size, rfl, by have := hS2.out.1.size; omega, ⟨al_new _ _ _ rfl, wordsN_len key hk.out, wordsN_byt key hB.out⟩, hS2.out.1.alloc (by have := hS2.out.1.size; omega) _⟩
 ·refine step_load_row rfl (.tmp 1) 22 rfl w.heap.size rfl _ _ _ _ _ (hS _ (by assumption)).2.1 Tryz.underlying22 (by rw [info16, ivA_size, hk.out]) (hK _ _ ?_)
  clear hK K
  refine wpAny_ready (rs := [0, 1]) (by kernel_rfl) (by simp) (AllReady.cons rfl (fun K hK => ?_) (AllReady.cons rfl (fun K hK => ?_) AllReady.nil))
  ·refine step_load_row rfl (.tmp 3) 247 rfl w1.heap.size rfl _ _ _ _ _ (hS _ (by assumption)).2.2 Tryz.underlying247 (by rw [info256, ivA_size, sbox_len]) (hK _ _ ?_)
   clear hK K
   refine wpAny_ready (rs := [1]) (by kernel_rfl) (by simp) (AllReady.cons rfl (fun K hK => ?_) AllReady.nil)
   refine step_load_row rfl (.tmp 3) 247 rfl w1.heap.size rfl _ _ _ _ _ (hS _ (by assumption)).2.2 Tryz.underlying247 (by rw [info256, ivA_size, sbox_len]) (hK _ _ ?_)
   clear hK K
   refine wpAny_ready (rs := [3]) (by kernel_rfl) (by simp) (AllReady.cons rfl (fun K hK => ?_) AllReady.nil)
   go_simp
   go_at_call 152
   refine (words_any key hk.out hB.out _).mono ?_
   rintro e w2 ⟨rfl, hb2⟩
   have hS2 := hS1 w2 (Lib.hid hb2)
   refine hK _ _ ?_
   clear hK K
   refine wpAny_ready (rs := [4]) (by kernel_rfl) (by simp) (AllReady.cons rfl (fun K hK => ?_) AllReady.nil)
   refine step_build rfl 252 [(0, .tmp 5), (1, .tmp 8)] rfl _ (built_cipher (wordsN key) (wordsN_len key hk.out)) (hK _ _ ?_)
   clear hK K
   refine wpAny_ready (rs := [5]) (by kernel_rfl) (by simp) (AllReady.cons rfl (fun K hK => ?_) AllReady.nil)
   refine step_box rfl 252 (.tmp 9) rfl (ivA .u8 (sbox ++ wordsN key)) rfl (hK _ _ ?_)
   clear hK K
   refine wpAny_ready (rs := [6]) (by kernel_rfl) (by simp) (AllReady.cons rfl (fun K hK => ?_) AllReady.nil)
   go_simp
   refine hK _ _ ?_
   clear hK K
   refine wpAny_done (by kernel_rfl) ?_ _
   go_wp2_with fail
   go_ret
   refine ⟨w2.heap.size, rfl, by have := hS2.out.1.size; omega, ⟨al_new _ _ _ rfl, wordsN_len key hk.out, wordsN_byt key hB.out⟩, hS2.out.1.alloc (by have := hS2.out.1.size; omega) _⟩
  ·refine step_load_row rfl (.tmp 3) 247 rfl w1.heap.size rfl _ _ _ _ _ (hS _ (by assumption)).2.2 Tryz.underlying247 (by rw [info256, ivA_size, sbox_len]) (hK _ _ ?_)
   clear hK K
   refine wpAny_ready (rs := [0, 3]) (by kernel_rfl) (by simp) (AllReady.cons rfl (fun K hK => ?_) (AllReady.cons rfl (fun K hK => ?_) AllReady.nil))
   ·refine step_load_row rfl (.tmp 3) 247 rfl w1.heap.size rfl _ _ _ _ _ (hS _ (by assumption)).2.2 Tryz.underlying247 (by rw [info256, ivA_size, sbox_len]) (hK _ _ ?_)
    clear hK K
    refine wpAny_ready (rs := [3]) (by kernel_rfl) (by simp) (AllReady.cons rfl (fun K hK => ?_) AllReady.nil)
    go_simp
    go_at_call 152
    refine (words_any key hk.out hB.out _).mono ?_
    rintro e w2 ⟨rfl, hb2⟩
    have hS2 := hS1 w2 (Lib.hid hb2)
    refine hK _ _ ?_
    clear hK K
    refine wpAny_ready (rs := [4]) (by kernel_rfl) (by simp) (AllReady.cons rfl (fun K hK => ?_) AllReady.nil)
    refine step_build rfl 252 [(0, .tmp 5), (1, .tmp 8)] rfl _ (built_cipher (wordsN key) (wordsN_len key hk.out)) (hK _ _ ?_)
    clear hK K
    refine wpAny_ready (rs := [5]) (by kernel_rfl) (by simp) (AllReady.cons rfl (fun K hK => ?_) AllReady.nil)
    refine step_box rfl 252 (.tmp 9) rfl (ivA .u8 (sbox ++ wordsN key)) rfl (hK _ _ ?_)
    clear hK K
    refine wpAny_ready (rs := [6]) (by kernel_rfl) (by simp) (AllReady.cons rfl (fun K hK => ?_) AllReady.nil)
    go_simp
    refine hK _ _ ?_
    clear hK K
    refine wpAny_done (by kernel_rfl) ?_ _
    go_wp2_with fail
    go_ret
    refine ⟨w2.heap.size, rfl, by have := hS2.out.1.size; omega, ⟨al_new _ _ _ rfl, wordsN_len key hk.out, wordsN_byt key hB.out⟩, hS2.out.1.alloc (by have := hS2.out.1.size; omega) _⟩
   ·go_simp
    go_at_call 152
    refine (words_any key hk.out hB.out _).mono ?_
    rintro e w2 ⟨rfl, hb2⟩
    have hS2 := hS1 w2 (Lib.hid hb2)
    refine hK _ _ ?_
    clear hK K
    refine wpAny_ready (rs := [0]) (by kernel_rfl) (by simp) (AllReady.cons rfl (fun K hK => ?_) AllReady.nil)
    refine step_load_row rfl (.tmp 3) 247 rfl w1.heap.size rfl _ _ _ _ _ (hS _ (by assumption)).2.2 Tryz.underlying247 (by rw [info256, ivA_size, sbox_len]) (hK _ _ ?_)
    clear hK K
    refine wpAny_ready (rs := [4]) (by kernel_rfl) (by simp) (AllReady.cons rfl (fun K hK => ?_) AllReady.nil)
    refine step_build rfl 252 [(0, .tmp 5), (1, .tmp 8)] rfl _ (built_cipher (wordsN key) (wordsN_len key hk.out)) (hK _ _ ?_)
    clear hK K
    refine wpAny_ready (rs := [5]) (by kernel_rfl) (by simp) (AllReady.cons rfl (fun K hK => ?_) AllReady.nil)
    refine step_box rfl 252 (.tmp 9) rfl (ivA .u8 (sbox ++ wordsN key)) rfl (hK _ _ ?_)
    clear hK K
    refine wpAny_ready (rs := [6]) (by kernel_rfl) (by simp) (AllReady.cons rfl (fun K hK => ?_) AllReady.nil)
    go_simp
    refine hK _ _ ?_
    clear hK K
    refine wpAny_done (by kernel_rfl) ?_ _
    go_wp2_with fail
    go_ret
    refine ⟨w2.heap.size, rfl, by have := hS2.out.1.size; omega, ⟨al_new _ _ _ rfl, wordsN_len key hk.out, wordsN_byt key hB.out⟩, hS2.out.1.alloc (by have := hS2.out.1.size; omega) _⟩
end Go.Proofs.YtikmhlbpefednaaGreat
