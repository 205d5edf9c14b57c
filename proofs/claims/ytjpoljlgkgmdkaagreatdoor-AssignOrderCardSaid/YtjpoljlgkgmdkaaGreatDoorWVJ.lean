/-
  What chapter 31's rows list of the library's variables, as facts on cells.
-/
import Derived.Test.YtjpoljlgkgmdkaaGreatDoorWW
import Derived.Test.YtjpoljlgkgmdkaaGreatDoorWSA
import Derived.PinnedBridge
set_option linter.unusedSimpArgs false
set_option linter.unusedVariables false
namespace Go.Proofs.YtjpoljlgkgmdkaaGreatDoor
open Go.ChangeShapes Go.WideShapes Go.ChangeAt Go.RowKit Go.Cold
theorem gTabType : (Tryz.prog.globals[1]?).map (·.type) = some 204 := by kernel_rfl
theorem ok7_of_laid {W : World} (h : laidMetH Tryz.prog [("math/bits.deBruijn32tab", Rows.laid_math_bits_deBruijn32tab), ("math/bits.deBruijn64tab", Rows.laid_math_bits_deBruijn64tab), ("internal/strconv.uint64pow10", Rows.laid_internal_strconv_uint64pow10), ("unicode/utf8.acceptRanges", Rows.laid_unicode_utf8_acceptRanges), ("strconv.ErrRange", Rows.laid_strconv_ErrRange), ("strconv.ErrSyntax", Rows.laid_strconv_ErrSyntax), ("unicode.CaseRanges", Rows.laid_unicode_CaseRanges), ("unicode/utf8.first", Rows.laid_unicode_utf8_first)] W) : Ok7 W := by
 have h0 : laidMet Tryz.prog [("math/bits.deBruijn32tab", Rows.laid_math_bits_deBruijn32tab), ("math/bits.deBruijn64tab", Rows.laid_math_bits_deBruijn64tab), ("internal/strconv.uint64pow10", Rows.laid_internal_strconv_uint64pow10), ("unicode/utf8.acceptRanges", Rows.laid_unicode_utf8_acceptRanges), ("strconv.ErrRange", Rows.laid_strconv_ErrRange), ("strconv.ErrSyntax", Rows.laid_strconv_ErrSyntax), ("unicode.CaseRanges", Rows.laid_unicode_CaseRanges), ("unicode/utf8.first", Rows.laid_unicode_utf8_first)] W := h
 have ht := Lib.tabIs_of_head (k := .u64) (zs := Lib.pow10Tab) tab_named gTabType Tryz.underlying204 Tryz.underlying144 (by kernel_rfl) (by kernel_rfl) h0.tail.tail
 obtain ⟨⟨ev, h1, h2⟩, ⟨ev2, h3, h4⟩⟩ := oka_of_laid h
 exact ⟨⟨ev, h1, h2⟩, ⟨ev2, h3, h4⟩, ht⟩
end Go.Proofs.YtjpoljlgkgmdkaaGreatDoor
namespace Go.Proofs.YtjpoljlgkgmdkaaGreatDoor
open Go.ChangeShapes Go.WideShapes Go.ChangeAt Go.RowKit Go.Cold
theorem okf_of {W : World} {rest : List (String × DataW Unit)} (h0 : laidMet Tryz.prog (("math/bits.deBruijn32tab", Rows.laid_math_bits_deBruijn32tab) :: ("math/bits.deBruijn64tab", Rows.laid_math_bits_deBruijn64tab) :: ("internal/strconv.uint64pow10", Rows.laid_internal_strconv_uint64pow10) :: ("unicode/utf8.acceptRanges", Rows.laid_unicode_utf8_acceptRanges) :: ("strconv.ErrRange", Rows.laid_strconv_ErrRange) :: ("strconv.ErrSyntax", Rows.laid_strconv_ErrSyntax) :: rest) W) : Ok7 W := by
 have ht := Lib.tabIs_of_head (k := .u64) (zs := Lib.pow10Tab) tab_named gTabType Tryz.underlying204 Tryz.underlying144 (by kernel_rfl) (by kernel_rfl) h0.tail.tail
 have h2 := h0.tail.tail.tail.tail
 obtain ⟨a1, s1, hv1, -, -, -⟩ := laid_sentinel h2 gER gERType Tryz.underlying114 rowErr Tryz.underlying224 Tryz.underlying226 rfl rfl Tryz.underlying9 (by kernel_rfl) (by kernel_rfl)
 obtain ⟨a0, s0, hv0, -, -, -⟩ := laid_sentinel h2.tail gES gESType Tryz.underlying114 rowErr Tryz.underlying224 Tryz.underlying226 rfl rfl Tryz.underlying9 (by kernel_rfl) (by kernel_rfl)
 exact ⟨⟨_, by have h0 := World.var?_cell gES hv0 0; simpa using h0, .inr ⟨_, _, rfl⟩⟩, ⟨_, by have h0 := World.var?_cell gER hv1 0; simpa using h0, .inr ⟨_, _, rfl⟩⟩, ht⟩
theorem okf8 {W : World} (h : laidMetH Tryz.prog [("math/bits.deBruijn32tab", Rows.laid_math_bits_deBruijn32tab), ("math/bits.deBruijn64tab", Rows.laid_math_bits_deBruijn64tab), ("internal/strconv.uint64pow10", Rows.laid_internal_strconv_uint64pow10), ("unicode/utf8.acceptRanges", Rows.laid_unicode_utf8_acceptRanges), ("strconv.ErrRange", Rows.laid_strconv_ErrRange), ("strconv.ErrSyntax", Rows.laid_strconv_ErrSyntax), ("unicode.CaseRanges", Rows.laid_unicode_CaseRanges), ("unicode/utf8.first", Rows.laid_unicode_utf8_first)] W) : Ok7 W := by
 have h0 : laidMet Tryz.prog [("math/bits.deBruijn32tab", Rows.laid_math_bits_deBruijn32tab), ("math/bits.deBruijn64tab", Rows.laid_math_bits_deBruijn64tab), ("internal/strconv.uint64pow10", Rows.laid_internal_strconv_uint64pow10), ("unicode/utf8.acceptRanges", Rows.laid_unicode_utf8_acceptRanges), ("strconv.ErrRange", Rows.laid_strconv_ErrRange), ("strconv.ErrSyntax", Rows.laid_strconv_ErrSyntax), ("unicode.CaseRanges", Rows.laid_unicode_CaseRanges), ("unicode/utf8.first", Rows.laid_unicode_utf8_first)] W := h
 exact okf_of h0
end Go.Proofs.YtjpoljlgkgmdkaaGreatDoor
