/- A struct of arrays of bytes compared with itself. No condition. -/
import Derived.Test.YtjjemkfkpnemoaaGBa
import Derived.Test.YtjjemkfkpnemoaaPre
namespace Go.Proofs.Ytjjemkfkpnemoaa
open Go.RowKit

noncomputable def chkF (m : Nat) (f : Field) : Bool := f.name != "_" && match Try.prog.underlying f.type with
  | some (.array n e) => e == 5 && (Try.prog.info? f.type).map (·.size) == some n && decide (f.offset + n ≤ m)
  | _ => false
theorem run_part_arr (w : World) (T : TypeId) (n : Nat) (hu : Try.prog.underlying T = some (.array n 5)) (hs : (Try.prog.info? T).map (·.size) = some n) (l : List Nat) (off : Nat) (_h : off + n ≤ l.length) :
    (part T (ivA .u8 l) off).run Try.prog w = .ok (.agg (ivA .u8 ((l.drop off).take n))) w := by
  have hagg : (isAgg T).run Try.prog w = .ok true w := by
    unfold isAgg
    rw [Sem.run_bind, run_underlying hu w]
    rfl
  have hsz : (sizeOf T).run Try.prog w = .ok n w := by
    cases hq : Try.prog.info? T with
    | none => simp [hq] at hs
    | some i => simp [hq] at hs; simp [sizeOf, typeInfo, hq, hs]
  have he : (ivA .u8 l).extract off (off + n) = ivA .u8 ((l.drop off).take n) := by
    apply Array.ext'
    simp [ivA, Array.toList_extract, List.map_take, List.map_drop, List.extract_eq_take_drop]
  unfold part
  simp only [Sem.run_bind, hagg, Result.andThen_ok, if_true, hsz, Sem.run_pure, he]
theorem eqFields_self (d : Nat) (l : List Nat) (w : World) : ∀ fs : List Field, fs.all (chkF l.length) = true → (Op.eqFields (d + 2) (ivA .u8 l) (ivA .u8 l) fs).run Try.prog w = .ok true w
  | [], _ => by simp [Op.eqFields]
  | f :: fs, h => by
    simp only [List.all_cons, Bool.and_eq_true] at h
    obtain ⟨h1, h2⟩ := h
    unfold chkF at h1
    simp only [Bool.and_eq_true, bne_iff_ne] at h1
    obtain ⟨hn, h1⟩ := h1
    split at h1
    · rename_i n e hu
      simp only [Bool.and_eq_true, beq_iff_eq, decide_eq_true_eq] at h1
      obtain ⟨⟨rfl, hs⟩, hf⟩ := h1
      have hl : ((l.drop f.offset).take n).length = n := by rw [List.length_take, List.length_drop]; omega
      have he := run_equalIn_ivA (P := Try.prog) d f.type 5 n .u8 ((l.drop f.offset).take n) ((l.drop f.offset).take n) hu Try.underlying5 info_u8 hl hl w
      rw [show ((l.drop f.offset).take n == (l.drop f.offset).take n) = true by simp] at he
      simp only [Op.eqFields, if_pos hn, Sem.run_bind, run_part_arr w f.type n hu hs l f.offset hf, Result.andThen_ok, he, Bool.not_true, Bool.false_eq_true, if_false, Sem.run_ite]
      exact eqFields_self d l w fs h2
    · cases h1
theorem equal_self (T : TypeId) (l : List Nat) (ht : Try.prog.underlying T = some (.struct (Try.prog.fieldsOf T))) (hp : Try.prog.stoodInHeld T = false) (hc : (Try.prog.fieldsOf T).toList.all (chkF l.length) = true) (w : World) :
    (Op.equalIn 10000 T (.agg (ivA .u8 l)) (.agg (ivA .u8 l))).run Try.prog w = .ok true w := by
  rw [run_equalIn_agg w 9999 T _ _ ht hp]
  exact eqFields_self 9997 l w _ hc
end Go.Proofs.Ytjjemkfkpnemoaa
