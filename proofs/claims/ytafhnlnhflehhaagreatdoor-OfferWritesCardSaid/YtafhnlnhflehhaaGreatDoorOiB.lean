/- What the row's listed variables give: the table of tens' powers, the two errors. -/
import Derived.Test.YtafhnlnhflehhaaGreatDoorOiN
import Derived.Test.YtafhnlnhflehhaaGreatDoorGHc
import Derived.Test.YtafhnlnhflehhaaGreatDoorRows
import Derived.LaidSub
import Derived.Stop.LaidErr
import Derived.Lib.LaidTab
import Derived.LaidLaws
namespace Go.Proofs.YtafhnlnhflehhaaGreatDoor
open Go.RowKit
theorem gPow : Tryz.prog.globalNamed "internal/strconv.uint64pow10" = some 0 := by kernel_rfl
theorem gSyn : Tryz.prog.globalNamed "strconv.ErrSyntax" = some 6 := by kernel_rfl
theorem gRan : Tryz.prog.globalNamed "strconv.ErrRange" = some 7 := by kernel_rfl
theorem star_es : "*" ++ "errors.errorString" = "*errors.errorString" := by decide
theorem row_es (u : TypeId) (h : Tryz.prog.typeName? 3 u = some "*errors.errorString") : u = 159 :=
 typeName_ptr_named (nm := "errors.errorString") (by rw [star_es]; kernel_rfl) (by kernel_rfl) (by decide) u (by rw [star_es]; exact h)
theorem laid_sent {n : String} {text : List UInt8} {r : List (String × DataW Unit)} {W : World} {g : Nat} (h : laidMet Tryz.prog ((n, .iface "*errors.errorString" (.ptr (.agg [.lit (.string text)]))) :: r) W) (hg : Tryz.prog.globalNamed n = some g) (ht : (Tryz.prog.globals[g]?).map (·.type) = some 78) : ∃ e : Value, W.cell? ⟨g, 0, none⟩ = some e ∧ (e = .nilIface ∨ ∃ te pe, e = .iface te pe) := by
 obtain ⟨a, s, hv, _⟩ := laid_sentinel h hg ht Tryz.underlying78 row_es Tryz.underlying159 Tryz.underlying161 rfl rfl Tryz.underlying9 (by kernel_rfl) (by kernel_rfl)
 exact ⟨_, by simpa using World.var?_cell hg hv 0, .inr ⟨_, _, rfl⟩⟩
theorem laid_facts {W : World} (h : laidMetH Tryz.prog Rows.offerReadsRow.laid W) : PowTab W ∧ ErrC W := by
 have h0 : laidMet Tryz.prog (Rows.offerReadsRow.laid.filter fun x => x.2.handleName?.isNone) W := (laidMetH_iff.1 h).1
 have h1 : laidMet Tryz.prog [("math/bits.deBruijn32tab", Rows.laid_math_bits_deBruijn32tab), ("math/bits.deBruijn64tab", Rows.laid_math_bits_deBruijn64tab), ("internal/strconv.uint64pow10", Lib.tabData .u64 Lib.pow10Tab), ("unicode/utf8.acceptRanges", Rows.laid_unicode_utf8_acceptRanges), ("strconv.ErrRange", Rows.laid_strconv_ErrRange), ("strconv.ErrSyntax", Rows.laid_strconv_ErrSyntax), ("unicode/utf8.first", Rows.laid_unicode_utf8_first)] W := h0
 have h3 := h1.tail.tail
 have h5 := h3.tail.tail
 obtain ⟨e2, z2, i2⟩ := laid_sent h5 gRan (by kernel_rfl)
 obtain ⟨e1, z1, i1⟩ := laid_sent h5.tail gSyn (by kernel_rfl)
 exact ⟨Lib.tabIs_of_head gPow (by kernel_rfl) Tryz.underlying110 Tryz.underlying47 (by kernel_rfl) (by kernel_rfl) h3, e1, e2, z1, i1, z2, i2⟩
end Go.Proofs.YtafhnlnhflehhaaGreatDoor
