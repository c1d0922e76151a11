/- The tables of Go's library that the rows of this seat list: what their readings give; a world that lays them. -/
import Derived.Test.YtabmciccahfjiaaGreatDoorFinO
import Derived.Lib.LaidU8
import Derived.Lib.LaidPrint
import Derived.Lib.LaidSlice
import Derived.Lib.LaidIn
import Derived.PinnedBridge
import Derived.Deep.DeepHandedRow
import Derived.Deep.DeepWitnessRowRef
import Derived.WalkKit
import Derived.ProofKit
import Derived.OpenShut
set_option linter.unusedSimpArgs false
set_option linter.unusedVariables false
namespace Go.Proofs.Am
open Go Go.RowKit Go.Lib
open Go.Proofs
open Go.Proofs.YtabmciccahfjiaaGreatDoor

def lay10 : List (String × DataW Unit) := [("math/bits.deBruijn32tab", Rows.laid_math_bits_deBruijn32tab), ("math/bits.deBruijn64tab", Rows.laid_math_bits_deBruijn64tab), ("internal/strconv.uint64pow10", Rows.laid_internal_strconv_uint64pow10), ("unicode/utf8.acceptRanges", Rows.laid_unicode_utf8_acceptRanges), ("strconv.isGraphic", Rows.laid_strconv_isGraphic), ("strconv.isNotPrint16", Rows.laid_strconv_isNotPrint16), ("strconv.isNotPrint32", Rows.laid_strconv_isNotPrint32), ("strconv.isPrint16", Rows.laid_strconv_isPrint16), ("strconv.isPrint32", Rows.laid_strconv_isPrint32), ("unicode/utf8.first", Rows.laid_unicode_utf8_first)]

theorem e_acc : (Rows.laid_unicode_utf8_acceptRanges : DataW Unit) = Lib.acceptData := by kernel_rfl
theorem e_pow : (Rows.laid_internal_strconv_uint64pow10 : DataW Unit) = Lib.tabData .u64 Lib.pow10Tab := by kernel_rfl

theorem laid_of {W : World} (h : laidMet Tryz.prog lay10 W) : Laid Tryz.prog W := by
  have r1 := Lib.laidMet.reads h (n := "internal/strconv.uint64pow10") (d := Rows.laid_internal_strconv_uint64pow10) (.tail _ (.tail _ (.head _)))
  have r3 := Lib.laidMet.reads h (n := "unicode/utf8.acceptRanges") (d := Rows.laid_unicode_utf8_acceptRanges) (.tail _ (.tail _ (.tail _ (.head _))))
  have r5 := Lib.laidMet.reads h (n := "strconv.isNotPrint16") (d := Rows.laid_strconv_isNotPrint16) (.tail _ (.tail _ (.tail _ (.tail _ (.tail _ (.head _))))))
  have r7 := Lib.laidMet.reads h (n := "strconv.isNotPrint32") (d := Rows.laid_strconv_isNotPrint32) (.tail _ (.tail _ (.tail _ (.tail _ (.tail _ (.tail _ (.head _)))))))
  have r4 := Lib.laidMet.reads h (n := "strconv.isPrint16") (d := Rows.laid_strconv_isPrint16) (.tail _ (.tail _ (.tail _ (.tail _ (.tail _ (.tail _ (.tail _ (.head _))))))))
  have r6 := Lib.laidMet.reads h (n := "strconv.isPrint32") (d := Rows.laid_strconv_isPrint32) (.tail _ (.tail _ (.tail _ (.tail _ (.tail _ (.tail _ (.tail _ (.tail _ (.head _)))))))))
  have r2 := Lib.laidMet.reads h (n := "unicode/utf8.first") (d := Rows.laid_unicode_utf8_first) (.tail _ (.tail _ (.tail _ (.tail _ (.tail _ (.tail _ (.tail _ (.tail _ (.tail _ (.head _))))))))))
  rw [e_pow] at r1
  rw [e_acc] at r3
  rw [show Rows.laid_strconv_isNotPrint16 = _ from Pinned.isNotPrint16_eq] at r5
  rw [show Rows.laid_strconv_isNotPrint32 = _ from Pinned.isNotPrint32_eq] at r7
  rw [show Rows.laid_strconv_isPrint16 = _ from Pinned.isPrint16_eq] at r4
  rw [show Rows.laid_strconv_isPrint32 = _ from Pinned.isPrint32_eq] at r6
  rw [show Rows.laid_unicode_utf8_first = _ from Pinned.utf8First_eq] at r2
  have hU : Lib.Utf8Tabs 2 3 W :=
    utf8Tabs_of_reads (ρ := Tryz.laysQuote_ren) { Tryz.laysQuote with } ⟨by kernel_rfl, by kernel_rfl, by kernel_rfl, by kernel_rfl, by kernel_rfl, by kernel_rfl, by kernel_rfl⟩ r2 r3
  have hT : Lib.PrintTabsAt 4 5 6 7 Lib.goPrintTabs W :=
    printTabs_of_reads (ρ := Tryz.laysQuote_ren) { Tryz.laysQuote with } ⟨by kernel_rfl, by kernel_rfl, by kernel_rfl, by kernel_rfl, by kernel_rfl, by kernel_rfl, by kernel_rfl, by kernel_rfl, by kernel_rfl, by kernel_rfl⟩ r4 r5 r6 r7
  refine ⟨fun a b c d ha hb hc hd => ?_, fun a b ha hb => ?_, fun g hg => ?_⟩
  · obtain rfl := Option.some.inj ((show Tryz.prog.globalNamed "strconv.isPrint16" = some 4 by kernel_rfl).symm.trans ha)
    obtain rfl := Option.some.inj ((show Tryz.prog.globalNamed "strconv.isNotPrint16" = some 5 by kernel_rfl).symm.trans hb)
    obtain rfl := Option.some.inj ((show Tryz.prog.globalNamed "strconv.isPrint32" = some 6 by kernel_rfl).symm.trans hc)
    obtain rfl := Option.some.inj ((show Tryz.prog.globalNamed "strconv.isNotPrint32" = some 7 by kernel_rfl).symm.trans hd)
    exact hT
  · obtain rfl := Option.some.inj ((show Tryz.prog.globalNamed "unicode/utf8.first" = some 2 by kernel_rfl).symm.trans ha)
    obtain rfl := Option.some.inj ((show Tryz.prog.globalNamed "unicode/utf8.acceptRanges" = some 3 by kernel_rfl).symm.trans hb)
    exact hU
  · obtain ⟨g', t', cs, fuel, p, hg', hty, hvar, hd⟩ := r1
    obtain rfl := Option.some.inj ((show Tryz.prog.globalNamed "internal/strconv.uint64pow10" = some 1 by kernel_rfl).symm.trans hg')
    obtain rfl := Option.some.inj ((show (Tryz.prog.globals[1]?).map (·.type) = some 209 by kernel_rfl).symm.trans hty)
    unfold Lib.TabIs
    rw [hvar, ← Lib.cells_of_tab (k := .u64) (n := 20) Tryz.underlying209 Tryz.underlying141 (by kernel_rfl) (by kernel_rfl) hd]
end Go.Proofs.Am
