/-
  NARROWER THAN 'FOR EVERY INPUT', by the rows' own cells (each row's printed sentence says how): LocaleGroups: laid · LocaleWrites: laid · LocaleBack: laid · LocaleFinds: laid · DecimalRounds: laid · DecimalReads: laid · DecimalPrints: laid · DecimalOrders: laid · DecimalNears: laid.
  DERIVED. THE GIVEN ROWS OF THIS SEAT. 9 by the template 'for every input the law returns true; each argument reads behind the call as it read before'; 0 by the template 'total and deterministic' (their statements: YtcbepojookbceaaDoorTotals.lean).
  GIVEN WITH THE SEED: the statements are not yours to turn. If you find one false, say at which input.
  Laid BY PROGRAM, IN A SANDBOX (cutbox-rows.mjs): the forced cells as the released guide's own fill.sh prints them over the translation a484f6e1867bf774… (all of the seat's roots in one cut). By AI agents, Wed Nov 11 2026. No macro, syntax, notation, axiom, sorry.
-/
import Derived.Test.YtcbepojookbceaaDoorChecked
import GoSem.PinnedTables
import GoSem.Claim
import GoSem.ClaimJoined
import GoSem.ClaimMapViews
import Derived.JoinedTies
import Derived.KernelRfl
namespace Go.Proofs.YtcbepojookbceaaDoor
/- THE CELL 'sum', in the pinned program and in every row, IS THE sha256 OF THE DUMP (.gsa) THAT YtcbepojookbceaaDoorProg.lean LOADS. Nothing in Lean hashes anything: it is a label: what it is worth is what the hold of that sum in a sandbox is worth. -/
noncomputable def Tryd.pinned : Pinned := { name := "ytcbepojookbceaadoor", sum := "a484f6e1867bf77455ea842520e8879fa498c19a5c027ef53108e700e17393d1", checked := Tryd.checked }
namespace Rows
def none {H : Type} : Left H := { results := [], args := [] }

/- WHAT THE LISTED PACKAGE-LEVEL VARIABLES READ AS WHEN THE CALL BEGINS. Each datum BY PROGRAM (the guide's laid-datum.mjs) off the statement by which the dump's own 'gosem.cut.vars' lays the variable. In a bare row this is a premise. The card (YtcbepojookbceaaDoorCards.lean) ties it to the program's text. -/
def laid_unicode_utf8_acceptRanges {H : Type} : DataW H := .agg [.agg [.lit (.int .u8 128), .lit (.int .u8 191)], .agg [.lit (.int .u8 160), .lit (.int .u8 191)], .agg [.lit (.int .u8 128), .lit (.int .u8 159)], .agg [.lit (.int .u8 144), .lit (.int .u8 191)], .agg [.lit (.int .u8 128), .lit (.int .u8 143)], .agg [.lit (.int .u8 0), .lit (.int .u8 0)], .agg [.lit (.int .u8 0), .lit (.int .u8 0)], .agg [.lit (.int .u8 0), .lit (.int .u8 0)], .agg [.lit (.int .u8 0), .lit (.int .u8 0)], .agg [.lit (.int .u8 0), .lit (.int .u8 0)], .agg [.lit (.int .u8 0), .lit (.int .u8 0)], .agg [.lit (.int .u8 0), .lit (.int .u8 0)], .agg [.lit (.int .u8 0), .lit (.int .u8 0)], .agg [.lit (.int .u8 0), .lit (.int .u8 0)], .agg [.lit (.int .u8 0), .lit (.int .u8 0)], .agg [.lit (.int .u8 0), .lit (.int .u8 0)]]
def laid_tabard_locale_names {H : Type} : DataW H := .agg [.lit (.string [99, 104]), .lit (.string [100, 101]), .lit (.string [101, 110]), .lit (.string [102, 114]), .lit (.string [104, 105]), .lit (.string [115, 118])]
def laid_tabard_locale_signs {H : Type} : DataW H := .agg [.agg [.lit (.string [46]), .lit (.string [226, 128, 153]), .lit (.string [59]), .lit (.string [45]), .lit (.string [67, 72, 70])], .agg [.lit (.string [44]), .lit (.string [46]), .lit (.string [59]), .lit (.string [45]), .lit (.string [226, 130, 172])], .agg [.lit (.string [46]), .lit (.string [44]), .lit (.string [44]), .lit (.string [45]), .lit (.string [36])], .agg [.lit (.string [44]), .lit (.string [226, 128, 175]), .lit (.string [59]), .lit (.string [45]), .lit (.string [226, 130, 172])], .agg [.lit (.string [46]), .lit (.string [44]), .lit (.string [44]), .lit (.string [45]), .lit (.string [226, 130, 185])], .agg [.lit (.string [44]), .lit (.string [194, 160]), .lit (.string [59]), .lit (.string [226, 136, 146]), .lit (.string [107, 114])]]
/-- One of Go's own tables, pinned by name: the form's constant. -/
def laid_unicode_utf8_first : DataW Unit := Go.Pinned.utf8First
def laid_math_bits_deBruijn32tab {H : Type} : DataW H := .agg [.lit (.int .u8 0), .lit (.int .u8 1), .lit (.int .u8 28), .lit (.int .u8 2), .lit (.int .u8 29), .lit (.int .u8 14), .lit (.int .u8 24), .lit (.int .u8 3), .lit (.int .u8 30), .lit (.int .u8 22), .lit (.int .u8 20), .lit (.int .u8 15), .lit (.int .u8 25), .lit (.int .u8 17), .lit (.int .u8 4), .lit (.int .u8 8), .lit (.int .u8 31), .lit (.int .u8 27), .lit (.int .u8 13), .lit (.int .u8 23), .lit (.int .u8 21), .lit (.int .u8 19), .lit (.int .u8 16), .lit (.int .u8 7), .lit (.int .u8 26), .lit (.int .u8 12), .lit (.int .u8 18), .lit (.int .u8 6), .lit (.int .u8 11), .lit (.int .u8 5), .lit (.int .u8 10), .lit (.int .u8 9)]
def laid_math_bits_deBruijn64tab {H : Type} : DataW H := .agg [.lit (.int .u8 0), .lit (.int .u8 1), .lit (.int .u8 56), .lit (.int .u8 2), .lit (.int .u8 57), .lit (.int .u8 49), .lit (.int .u8 28), .lit (.int .u8 3), .lit (.int .u8 61), .lit (.int .u8 58), .lit (.int .u8 42), .lit (.int .u8 50), .lit (.int .u8 38), .lit (.int .u8 29), .lit (.int .u8 17), .lit (.int .u8 4), .lit (.int .u8 62), .lit (.int .u8 47), .lit (.int .u8 59), .lit (.int .u8 36), .lit (.int .u8 45), .lit (.int .u8 43), .lit (.int .u8 51), .lit (.int .u8 22), .lit (.int .u8 53), .lit (.int .u8 39), .lit (.int .u8 33), .lit (.int .u8 30), .lit (.int .u8 24), .lit (.int .u8 18), .lit (.int .u8 12), .lit (.int .u8 5), .lit (.int .u8 63), .lit (.int .u8 55), .lit (.int .u8 48), .lit (.int .u8 27), .lit (.int .u8 60), .lit (.int .u8 41), .lit (.int .u8 37), .lit (.int .u8 16), .lit (.int .u8 46), .lit (.int .u8 35), .lit (.int .u8 44), .lit (.int .u8 21), .lit (.int .u8 52), .lit (.int .u8 32), .lit (.int .u8 23), .lit (.int .u8 11), .lit (.int .u8 54), .lit (.int .u8 26), .lit (.int .u8 40), .lit (.int .u8 15), .lit (.int .u8 34), .lit (.int .u8 20), .lit (.int .u8 31), .lit (.int .u8 10), .lit (.int .u8 25), .lit (.int .u8 14), .lit (.int .u8 19), .lit (.int .u8 9), .lit (.int .u8 13), .lit (.int .u8 8), .lit (.int .u8 7), .lit (.int .u8 6)]
def laid_internal_strconv_uint64pow10 {H : Type} : DataW H := .agg [.lit (.int .u64 1), .lit (.int .u64 10), .lit (.int .u64 100), .lit (.int .u64 1000), .lit (.int .u64 10000), .lit (.int .u64 100000), .lit (.int .u64 1000000), .lit (.int .u64 10000000), .lit (.int .u64 100000000), .lit (.int .u64 1000000000), .lit (.int .u64 10000000000), .lit (.int .u64 100000000000), .lit (.int .u64 1000000000000), .lit (.int .u64 10000000000000), .lit (.int .u64 100000000000000), .lit (.int .u64 1000000000000000), .lit (.int .u64 10000000000000000), .lit (.int .u64 100000000000000000), .lit (.int .u64 1000000000000000000), .lit (.int .u64 10000000000000000000)]
def laid_strconv_ErrRange {H : Type} : DataW H := .iface "*errors.errorString" (.ptr (.agg [.lit (.string [118, 97, 108, 117, 101, 32, 111, 117, 116, 32, 111, 102, 32, 114, 97, 110, 103, 101])]))
def laid_strconv_ErrSyntax {H : Type} : DataW H := .iface "*errors.errorString" (.ptr (.agg [.lit (.string [105, 110, 118, 97, 108, 105, 100, 32, 115, 121, 110, 116, 97, 120])]))

/-- 'tabardlaw11.LocaleGroups': WHATEVER THE INPUT: true; the input reads as it did. -/
def localeGroupsSpec : ChangeSpec := { name := "localeGroups", fn := fun _ => fun
  | [d1, d2, d3] => { results := [.lit (.bool true)], args := [d1, d2, d3] }
  | _ => none }
def localeGroupsRow : OpenClaim := { program := "ytcbepojookbceaadoor", sum := "a484f6e1867bf77455ea842520e8879fa498c19a5c027ef53108e700e17393d1", func := "tabard/tabardlaw11.LocaleGroups", spec := "localeGroups", inPlace := ["internal/bytealg.CountString", "internal/bytealg.IndexByteString", "internal/bytealg.IndexString", "internal/abi.NoEscape", "internal/bytealg.MakeNoZero"], named := ["tabard/locale.names", "tabard/locale.signs", "internal/bytealg.MaxLen", "unicode/utf8.first", "unicode/utf8.acceptRanges"], apart := false, laid := [("unicode/utf8.acceptRanges", laid_unicode_utf8_acceptRanges), ("tabard/locale.names", laid_tabard_locale_names), ("tabard/locale.signs", laid_tabard_locale_signs), ("unicode/utf8.first", laid_unicode_utf8_first)] }
def LocaleGroupsSaid : Prop := localeGroupsRow.holds Tryd.pinned (OpenSpec.ofChange localeGroupsSpec)

/-- ITS FALSE NEIGHBOUR: 'it returns false'. Refute it at one input. -/
def localeGroupsWrong : ChangeSpec := { name := "localeGroups", fn := fun _ => fun
  | [d1, d2, d3] => { results := [.lit (.bool false)], args := [d1, d2, d3] }
  | _ => none }
def LocaleGroupsWrongFalsely : Prop := localeGroupsRow.holds Tryd.pinned (OpenSpec.ofChange localeGroupsWrong)

/-- 'tabardlaw11.LocaleWrites': WHATEVER THE INPUT: true; the input reads as it did. -/
def localeWritesSpec : ChangeSpec := { name := "localeWrites", fn := fun _ => fun
  | [d1, d2, d3, d4] => { results := [.lit (.bool true)], args := [d1, d2, d3, d4] }
  | _ => none }
def localeWritesRow : OpenClaim := { program := "ytcbepojookbceaadoor", sum := "a484f6e1867bf77455ea842520e8879fa498c19a5c027ef53108e700e17393d1", func := "tabard/tabardlaw11.LocaleWrites", spec := "localeWrites", inPlace := ["internal/bytealg.CountString", "internal/bytealg.IndexByteString", "internal/bytealg.IndexString", "internal/abi.NoEscape", "internal/bytealg.MakeNoZero"], named := ["tabard/locale.names", "tabard/locale.signs", "internal/bytealg.MaxLen", "unicode/utf8.first", "unicode/utf8.acceptRanges"], apart := false, laid := [("unicode/utf8.acceptRanges", laid_unicode_utf8_acceptRanges), ("tabard/locale.names", laid_tabard_locale_names), ("tabard/locale.signs", laid_tabard_locale_signs), ("unicode/utf8.first", laid_unicode_utf8_first)] }
def LocaleWritesSaid : Prop := localeWritesRow.holds Tryd.pinned (OpenSpec.ofChange localeWritesSpec)

/-- ITS FALSE NEIGHBOUR: 'it returns false'. Refute it at one input. -/
def localeWritesWrong : ChangeSpec := { name := "localeWrites", fn := fun _ => fun
  | [d1, d2, d3, d4] => { results := [.lit (.bool false)], args := [d1, d2, d3, d4] }
  | _ => none }
def LocaleWritesWrongFalsely : Prop := localeWritesRow.holds Tryd.pinned (OpenSpec.ofChange localeWritesWrong)

/-- 'tabardlaw11.LocaleBack': WHATEVER THE INPUT: true; the input reads as it did. -/
def localeBackSpec : ChangeSpec := { name := "localeBack", fn := fun _ => fun
  | [d1, d2] => { results := [.lit (.bool true)], args := [d1, d2] }
  | _ => none }
def localeBackRow : OpenClaim := { program := "ytcbepojookbceaadoor", sum := "a484f6e1867bf77455ea842520e8879fa498c19a5c027ef53108e700e17393d1", func := "tabard/tabardlaw11.LocaleBack", spec := "localeBack", inPlace := ["internal/bytealg.CountString", "internal/bytealg.IndexByteString", "internal/bytealg.IndexString", "internal/abi.NoEscape", "internal/bytealg.MakeNoZero"], named := ["tabard/locale.names", "tabard/locale.signs", "internal/bytealg.MaxLen", "unicode/utf8.first", "unicode/utf8.acceptRanges"], apart := false, laid := [("unicode/utf8.acceptRanges", laid_unicode_utf8_acceptRanges), ("tabard/locale.names", laid_tabard_locale_names), ("tabard/locale.signs", laid_tabard_locale_signs), ("unicode/utf8.first", laid_unicode_utf8_first)] }
def LocaleBackSaid : Prop := localeBackRow.holds Tryd.pinned (OpenSpec.ofChange localeBackSpec)

/-- ITS FALSE NEIGHBOUR: 'it returns false'. Refute it at one input. -/
def localeBackWrong : ChangeSpec := { name := "localeBack", fn := fun _ => fun
  | [d1, d2] => { results := [.lit (.bool false)], args := [d1, d2] }
  | _ => none }
def LocaleBackWrongFalsely : Prop := localeBackRow.holds Tryd.pinned (OpenSpec.ofChange localeBackWrong)

/-- 'tabardlaw11.LocaleFinds': WHATEVER THE INPUT: true; the input reads as it did. -/
def localeFindsSpec : ChangeSpec := { name := "localeFinds", fn := fun _ => fun
  | [d] => { results := [.lit (.bool true)], args := [d] }
  | _ => none }
def localeFindsRow : OpenClaim := { program := "ytcbepojookbceaadoor", sum := "a484f6e1867bf77455ea842520e8879fa498c19a5c027ef53108e700e17393d1", func := "tabard/tabardlaw11.LocaleFinds", spec := "localeFinds", inPlace := ["internal/bytealg.CountString", "internal/bytealg.IndexByteString", "internal/bytealg.IndexString", "internal/abi.NoEscape", "internal/bytealg.MakeNoZero"], named := ["tabard/locale.names", "tabard/locale.signs", "internal/bytealg.MaxLen", "unicode/utf8.first", "unicode/utf8.acceptRanges"], apart := false, laid := [("unicode/utf8.acceptRanges", laid_unicode_utf8_acceptRanges), ("tabard/locale.names", laid_tabard_locale_names), ("tabard/locale.signs", laid_tabard_locale_signs), ("unicode/utf8.first", laid_unicode_utf8_first)] }
def LocaleFindsSaid : Prop := localeFindsRow.holds Tryd.pinned (OpenSpec.ofChange localeFindsSpec)

/-- ITS FALSE NEIGHBOUR: 'it returns false'. Refute it at one input. -/
def localeFindsWrong : ChangeSpec := { name := "localeFinds", fn := fun _ => fun
  | [d] => { results := [.lit (.bool false)], args := [d] }
  | _ => none }
def LocaleFindsWrongFalsely : Prop := localeFindsRow.holds Tryd.pinned (OpenSpec.ofChange localeFindsWrong)

/-- 'tabardlaw7.DecimalRounds': WHATEVER THE INPUT: true; the input reads as it did. -/
def decimalRoundsSpec : ChangeSpec := { name := "decimalRounds", fn := fun _ => fun
  | [d1, d2, d3] => { results := [.lit (.bool true)], args := [d1, d2, d3] }
  | _ => none }
def decimalRoundsRow : OpenClaim := { program := "ytcbepojookbceaadoor", sum := "a484f6e1867bf77455ea842520e8879fa498c19a5c027ef53108e700e17393d1", func := "tabard/tabardlaw7.DecimalRounds", spec := "decimalRounds", inPlace := ["internal/bytealg.IndexByteString", "internal/bytealg.IndexString", "internal/abi.NoEscape", "internal/bytealg.MakeNoZero", "internal/bytealg.abigen_runtime_cmpstring"], named := ["unicode/utf8.first", "unicode/utf8.acceptRanges", "strconv.ErrSyntax", "strconv.ErrRange", "internal/strconv.uint64pow10", "math/bits.deBruijn32tab", "math/bits.deBruijn64tab", "internal/bytealg.MaxLen"], apart := false, laid := [("math/bits.deBruijn32tab", laid_math_bits_deBruijn32tab), ("math/bits.deBruijn64tab", laid_math_bits_deBruijn64tab), ("internal/strconv.uint64pow10", laid_internal_strconv_uint64pow10), ("unicode/utf8.acceptRanges", laid_unicode_utf8_acceptRanges), ("strconv.ErrRange", laid_strconv_ErrRange), ("strconv.ErrSyntax", laid_strconv_ErrSyntax), ("unicode/utf8.first", laid_unicode_utf8_first)] }
def DecimalRoundsSaid : Prop := decimalRoundsRow.holds Tryd.pinned (OpenSpec.ofChange decimalRoundsSpec)

/-- ITS FALSE NEIGHBOUR: 'it returns false'. Refute it at one input. -/
def decimalRoundsWrong : ChangeSpec := { name := "decimalRounds", fn := fun _ => fun
  | [d1, d2, d3] => { results := [.lit (.bool false)], args := [d1, d2, d3] }
  | _ => none }
def DecimalRoundsWrongFalsely : Prop := decimalRoundsRow.holds Tryd.pinned (OpenSpec.ofChange decimalRoundsWrong)

/-- 'tabardlaw7.DecimalReads': WHATEVER THE INPUT: true; the input reads as it did. -/
def decimalReadsSpec : ChangeSpec := { name := "decimalReads", fn := fun _ => fun
  | [d] => { results := [.lit (.bool true)], args := [d] }
  | _ => none }
def decimalReadsRow : OpenClaim := { program := "ytcbepojookbceaadoor", sum := "a484f6e1867bf77455ea842520e8879fa498c19a5c027ef53108e700e17393d1", func := "tabard/tabardlaw7.DecimalReads", spec := "decimalReads", inPlace := ["internal/bytealg.IndexByteString", "internal/bytealg.IndexString", "internal/abi.NoEscape", "internal/bytealg.MakeNoZero", "internal/bytealg.abigen_runtime_cmpstring"], named := ["unicode/utf8.first", "unicode/utf8.acceptRanges", "strconv.ErrSyntax", "strconv.ErrRange", "internal/strconv.uint64pow10", "math/bits.deBruijn32tab", "math/bits.deBruijn64tab", "internal/bytealg.MaxLen"], apart := false, laid := [("math/bits.deBruijn32tab", laid_math_bits_deBruijn32tab), ("math/bits.deBruijn64tab", laid_math_bits_deBruijn64tab), ("internal/strconv.uint64pow10", laid_internal_strconv_uint64pow10), ("unicode/utf8.acceptRanges", laid_unicode_utf8_acceptRanges), ("strconv.ErrRange", laid_strconv_ErrRange), ("strconv.ErrSyntax", laid_strconv_ErrSyntax), ("unicode/utf8.first", laid_unicode_utf8_first)] }
def DecimalReadsSaid : Prop := decimalReadsRow.holds Tryd.pinned (OpenSpec.ofChange decimalReadsSpec)

/-- ITS FALSE NEIGHBOUR: 'it returns false'. Refute it at one input. -/
def decimalReadsWrong : ChangeSpec := { name := "decimalReads", fn := fun _ => fun
  | [d] => { results := [.lit (.bool false)], args := [d] }
  | _ => none }
def DecimalReadsWrongFalsely : Prop := decimalReadsRow.holds Tryd.pinned (OpenSpec.ofChange decimalReadsWrong)

/-- 'tabardlaw7.DecimalPrints': WHATEVER THE INPUT: true; the input reads as it did. -/
def decimalPrintsSpec : ChangeSpec := { name := "decimalPrints", fn := fun _ => fun
  | [d] => { results := [.lit (.bool true)], args := [d] }
  | _ => none }
def decimalPrintsRow : OpenClaim := { program := "ytcbepojookbceaadoor", sum := "a484f6e1867bf77455ea842520e8879fa498c19a5c027ef53108e700e17393d1", func := "tabard/tabardlaw7.DecimalPrints", spec := "decimalPrints", inPlace := ["internal/bytealg.IndexByteString", "internal/bytealg.IndexString", "internal/abi.NoEscape", "internal/bytealg.MakeNoZero", "internal/bytealg.abigen_runtime_cmpstring"], recurses := true, named := ["unicode/utf8.first", "unicode/utf8.acceptRanges", "strconv.ErrSyntax", "strconv.ErrRange", "internal/strconv.uint64pow10", "math/bits.deBruijn32tab", "math/bits.deBruijn64tab", "internal/bytealg.MaxLen"], apart := false, laid := [("math/bits.deBruijn32tab", laid_math_bits_deBruijn32tab), ("math/bits.deBruijn64tab", laid_math_bits_deBruijn64tab), ("internal/strconv.uint64pow10", laid_internal_strconv_uint64pow10), ("unicode/utf8.acceptRanges", laid_unicode_utf8_acceptRanges), ("strconv.ErrRange", laid_strconv_ErrRange), ("strconv.ErrSyntax", laid_strconv_ErrSyntax), ("unicode/utf8.first", laid_unicode_utf8_first)] }
def DecimalPrintsSaid : Prop := decimalPrintsRow.holds Tryd.pinned (OpenSpec.ofChange decimalPrintsSpec)

/-- ITS FALSE NEIGHBOUR: 'it returns false'. Refute it at one input. -/
def decimalPrintsWrong : ChangeSpec := { name := "decimalPrints", fn := fun _ => fun
  | [d] => { results := [.lit (.bool false)], args := [d] }
  | _ => none }
def DecimalPrintsWrongFalsely : Prop := decimalPrintsRow.holds Tryd.pinned (OpenSpec.ofChange decimalPrintsWrong)

/-- 'tabardlaw7.DecimalOrders': WHATEVER THE INPUT: true; the input reads as it did. -/
def decimalOrdersSpec : ChangeSpec := { name := "decimalOrders", fn := fun _ => fun
  | [d1, d2, d3, d4, d5] => { results := [.lit (.bool true)], args := [d1, d2, d3, d4, d5] }
  | _ => none }
def decimalOrdersRow : OpenClaim := { program := "ytcbepojookbceaadoor", sum := "a484f6e1867bf77455ea842520e8879fa498c19a5c027ef53108e700e17393d1", func := "tabard/tabardlaw7.DecimalOrders", spec := "decimalOrders", inPlace := ["internal/bytealg.IndexByteString", "internal/bytealg.IndexString", "internal/abi.NoEscape", "internal/bytealg.MakeNoZero", "internal/bytealg.abigen_runtime_cmpstring"], named := ["unicode/utf8.first", "unicode/utf8.acceptRanges", "strconv.ErrSyntax", "strconv.ErrRange", "internal/strconv.uint64pow10", "math/bits.deBruijn32tab", "math/bits.deBruijn64tab", "internal/bytealg.MaxLen"], apart := false, laid := [("math/bits.deBruijn32tab", laid_math_bits_deBruijn32tab), ("math/bits.deBruijn64tab", laid_math_bits_deBruijn64tab), ("internal/strconv.uint64pow10", laid_internal_strconv_uint64pow10), ("unicode/utf8.acceptRanges", laid_unicode_utf8_acceptRanges), ("strconv.ErrRange", laid_strconv_ErrRange), ("strconv.ErrSyntax", laid_strconv_ErrSyntax), ("unicode/utf8.first", laid_unicode_utf8_first)] }
def DecimalOrdersSaid : Prop := decimalOrdersRow.holds Tryd.pinned (OpenSpec.ofChange decimalOrdersSpec)

/-- ITS FALSE NEIGHBOUR: 'it returns false'. Refute it at one input. -/
def decimalOrdersWrong : ChangeSpec := { name := "decimalOrders", fn := fun _ => fun
  | [d1, d2, d3, d4, d5] => { results := [.lit (.bool false)], args := [d1, d2, d3, d4, d5] }
  | _ => none }
def DecimalOrdersWrongFalsely : Prop := decimalOrdersRow.holds Tryd.pinned (OpenSpec.ofChange decimalOrdersWrong)

/-- 'tabardlaw7.DecimalNears': WHATEVER THE INPUT: true; the input reads as it did. -/
def decimalNearsSpec : ChangeSpec := { name := "decimalNears", fn := fun _ => fun
  | [d1, d2] => { results := [.lit (.bool true)], args := [d1, d2] }
  | _ => none }
def decimalNearsRow : OpenClaim := { program := "ytcbepojookbceaadoor", sum := "a484f6e1867bf77455ea842520e8879fa498c19a5c027ef53108e700e17393d1", func := "tabard/tabardlaw7.DecimalNears", spec := "decimalNears", inPlace := ["internal/bytealg.IndexByteString", "internal/bytealg.IndexString", "internal/abi.NoEscape", "internal/bytealg.MakeNoZero", "internal/bytealg.abigen_runtime_cmpstring"], named := ["unicode/utf8.first", "unicode/utf8.acceptRanges", "strconv.ErrSyntax", "strconv.ErrRange", "internal/strconv.uint64pow10", "math/bits.deBruijn32tab", "math/bits.deBruijn64tab", "internal/bytealg.MaxLen"], apart := false, laid := [("math/bits.deBruijn32tab", laid_math_bits_deBruijn32tab), ("math/bits.deBruijn64tab", laid_math_bits_deBruijn64tab), ("internal/strconv.uint64pow10", laid_internal_strconv_uint64pow10), ("unicode/utf8.acceptRanges", laid_unicode_utf8_acceptRanges), ("strconv.ErrRange", laid_strconv_ErrRange), ("strconv.ErrSyntax", laid_strconv_ErrSyntax), ("unicode/utf8.first", laid_unicode_utf8_first)] }
def DecimalNearsSaid : Prop := decimalNearsRow.holds Tryd.pinned (OpenSpec.ofChange decimalNearsSpec)

/-- ITS FALSE NEIGHBOUR: 'it returns false'. Refute it at one input. -/
def decimalNearsWrong : ChangeSpec := { name := "decimalNears", fn := fun _ => fun
  | [d1, d2] => { results := [.lit (.bool false)], args := [d1, d2] }
  | _ => none }
def DecimalNearsWrongFalsely : Prop := decimalNearsRow.holds Tryd.pinned (OpenSpec.ofChange decimalNearsWrong)

/- THE SECOND FORM. 'bulk': how many values and letters a reading holds, each counted each time it is reached (what is shared counts as often as it is met; a slice's spare places count too). A statement '..UptoSaid' is the law's where the arguments, and the package variables that the reading takes, are together of bulk at most 1048576: NARROWER than '..Said'. Prove '..Said' where nothing that the law and all that it calls make is longer than what came in: it says more and counts as full. Else prove '..UptoSaid'. A law counts once. -/
mutual
def uptoBulk {H : Type} : DataW H → Nat
  | .lit (.string bytes) => bytes.length + 1
  | .lit _ => 1
  | .nil => 1
  | .ptr d => uptoBulk d + 1
  | .slice elems spare => uptoBulkAll elems + uptoBulkAll spare + 1
  | .agg parts => uptoBulkAll parts + 1
  | .iface _ d => uptoBulk d + 1
  | .map entries => uptoBulkEntries entries + 1
  | .held _ => 1
def uptoBulkAll {H : Type} : List (DataW H) → Nat
  | [] => 0
  | d :: r => uptoBulk d + uptoBulkAll r
def uptoBulkEntries {H : Type} : List (Lit × DataW H) → Nat
  | [] => 0
  | x :: r => uptoBulkEntry x + uptoBulkEntries r
def uptoBulkEntry {H : Type} : Lit × DataW H → Nat
  | (.string bytes, d) => bytes.length + uptoBulk d + 1
  | (_, d) => uptoBulk d + 1
 end
def uptoSmall : (H : Type) → List (DataW H) → Bool := fun _ ds => decide (uptoBulkAll ds ≤ 1048576)
def OpenSpec.upto (s : _root_.Go.ChangeSpec) : _root_.Go.OpenSpec := { _root_.Go.OpenSpec.ofChange s with cond := some uptoSmall }

/-- 'tabardlaw11.LocaleGroups', WHERE WHAT IT READS IS OF BULK AT MOST 1048576: true; the input reads as it did. -/
def localeGroupsUptoRow : OpenClaim := { program := "ytcbepojookbceaadoor", sum := "a484f6e1867bf77455ea842520e8879fa498c19a5c027ef53108e700e17393d1", func := "tabard/tabardlaw11.LocaleGroups", spec := "localeGroups", inPlace := ["internal/bytealg.CountString", "internal/bytealg.IndexByteString", "internal/bytealg.IndexString", "internal/abi.NoEscape", "internal/bytealg.MakeNoZero"], named := ["tabard/locale.names", "tabard/locale.signs", "internal/bytealg.MaxLen", "unicode/utf8.first", "unicode/utf8.acceptRanges"], apart := false, laid := [("unicode/utf8.acceptRanges", laid_unicode_utf8_acceptRanges), ("tabard/locale.names", laid_tabard_locale_names), ("tabard/locale.signs", laid_tabard_locale_signs), ("unicode/utf8.first", laid_unicode_utf8_first)], narrowed := true }
def LocaleGroupsUptoSaid : Prop := localeGroupsUptoRow.holds Tryd.pinned (OpenSpec.upto localeGroupsSpec)

/-- 'tabardlaw11.LocaleWrites', WHERE WHAT IT READS IS OF BULK AT MOST 1048576: true; the input reads as it did. -/
def localeWritesUptoRow : OpenClaim := { program := "ytcbepojookbceaadoor", sum := "a484f6e1867bf77455ea842520e8879fa498c19a5c027ef53108e700e17393d1", func := "tabard/tabardlaw11.LocaleWrites", spec := "localeWrites", inPlace := ["internal/bytealg.CountString", "internal/bytealg.IndexByteString", "internal/bytealg.IndexString", "internal/abi.NoEscape", "internal/bytealg.MakeNoZero"], named := ["tabard/locale.names", "tabard/locale.signs", "internal/bytealg.MaxLen", "unicode/utf8.first", "unicode/utf8.acceptRanges"], apart := false, laid := [("unicode/utf8.acceptRanges", laid_unicode_utf8_acceptRanges), ("tabard/locale.names", laid_tabard_locale_names), ("tabard/locale.signs", laid_tabard_locale_signs), ("unicode/utf8.first", laid_unicode_utf8_first)], narrowed := true }
def LocaleWritesUptoSaid : Prop := localeWritesUptoRow.holds Tryd.pinned (OpenSpec.upto localeWritesSpec)

/-- 'tabardlaw11.LocaleBack', WHERE WHAT IT READS IS OF BULK AT MOST 1048576: true; the input reads as it did. -/
def localeBackUptoRow : OpenClaim := { program := "ytcbepojookbceaadoor", sum := "a484f6e1867bf77455ea842520e8879fa498c19a5c027ef53108e700e17393d1", func := "tabard/tabardlaw11.LocaleBack", spec := "localeBack", inPlace := ["internal/bytealg.CountString", "internal/bytealg.IndexByteString", "internal/bytealg.IndexString", "internal/abi.NoEscape", "internal/bytealg.MakeNoZero"], named := ["tabard/locale.names", "tabard/locale.signs", "internal/bytealg.MaxLen", "unicode/utf8.first", "unicode/utf8.acceptRanges"], apart := false, laid := [("unicode/utf8.acceptRanges", laid_unicode_utf8_acceptRanges), ("tabard/locale.names", laid_tabard_locale_names), ("tabard/locale.signs", laid_tabard_locale_signs), ("unicode/utf8.first", laid_unicode_utf8_first)], narrowed := true }
def LocaleBackUptoSaid : Prop := localeBackUptoRow.holds Tryd.pinned (OpenSpec.upto localeBackSpec)

/-- 'tabardlaw11.LocaleFinds', WHERE WHAT IT READS IS OF BULK AT MOST 1048576: true; the input reads as it did. -/
def localeFindsUptoRow : OpenClaim := { program := "ytcbepojookbceaadoor", sum := "a484f6e1867bf77455ea842520e8879fa498c19a5c027ef53108e700e17393d1", func := "tabard/tabardlaw11.LocaleFinds", spec := "localeFinds", inPlace := ["internal/bytealg.CountString", "internal/bytealg.IndexByteString", "internal/bytealg.IndexString", "internal/abi.NoEscape", "internal/bytealg.MakeNoZero"], named := ["tabard/locale.names", "tabard/locale.signs", "internal/bytealg.MaxLen", "unicode/utf8.first", "unicode/utf8.acceptRanges"], apart := false, laid := [("unicode/utf8.acceptRanges", laid_unicode_utf8_acceptRanges), ("tabard/locale.names", laid_tabard_locale_names), ("tabard/locale.signs", laid_tabard_locale_signs), ("unicode/utf8.first", laid_unicode_utf8_first)], narrowed := true }
def LocaleFindsUptoSaid : Prop := localeFindsUptoRow.holds Tryd.pinned (OpenSpec.upto localeFindsSpec)

/-- 'tabardlaw7.DecimalRounds', WHERE WHAT IT READS IS OF BULK AT MOST 1048576: true; the input reads as it did. -/
def decimalRoundsUptoRow : OpenClaim := { program := "ytcbepojookbceaadoor", sum := "a484f6e1867bf77455ea842520e8879fa498c19a5c027ef53108e700e17393d1", func := "tabard/tabardlaw7.DecimalRounds", spec := "decimalRounds", inPlace := ["internal/bytealg.IndexByteString", "internal/bytealg.IndexString", "internal/abi.NoEscape", "internal/bytealg.MakeNoZero", "internal/bytealg.abigen_runtime_cmpstring"], named := ["unicode/utf8.first", "unicode/utf8.acceptRanges", "strconv.ErrSyntax", "strconv.ErrRange", "internal/strconv.uint64pow10", "math/bits.deBruijn32tab", "math/bits.deBruijn64tab", "internal/bytealg.MaxLen"], apart := false, laid := [("math/bits.deBruijn32tab", laid_math_bits_deBruijn32tab), ("math/bits.deBruijn64tab", laid_math_bits_deBruijn64tab), ("internal/strconv.uint64pow10", laid_internal_strconv_uint64pow10), ("unicode/utf8.acceptRanges", laid_unicode_utf8_acceptRanges), ("strconv.ErrRange", laid_strconv_ErrRange), ("strconv.ErrSyntax", laid_strconv_ErrSyntax), ("unicode/utf8.first", laid_unicode_utf8_first)], narrowed := true }
def DecimalRoundsUptoSaid : Prop := decimalRoundsUptoRow.holds Tryd.pinned (OpenSpec.upto decimalRoundsSpec)

/-- 'tabardlaw7.DecimalReads', WHERE WHAT IT READS IS OF BULK AT MOST 1048576: true; the input reads as it did. -/
def decimalReadsUptoRow : OpenClaim := { program := "ytcbepojookbceaadoor", sum := "a484f6e1867bf77455ea842520e8879fa498c19a5c027ef53108e700e17393d1", func := "tabard/tabardlaw7.DecimalReads", spec := "decimalReads", inPlace := ["internal/bytealg.IndexByteString", "internal/bytealg.IndexString", "internal/abi.NoEscape", "internal/bytealg.MakeNoZero", "internal/bytealg.abigen_runtime_cmpstring"], named := ["unicode/utf8.first", "unicode/utf8.acceptRanges", "strconv.ErrSyntax", "strconv.ErrRange", "internal/strconv.uint64pow10", "math/bits.deBruijn32tab", "math/bits.deBruijn64tab", "internal/bytealg.MaxLen"], apart := false, laid := [("math/bits.deBruijn32tab", laid_math_bits_deBruijn32tab), ("math/bits.deBruijn64tab", laid_math_bits_deBruijn64tab), ("internal/strconv.uint64pow10", laid_internal_strconv_uint64pow10), ("unicode/utf8.acceptRanges", laid_unicode_utf8_acceptRanges), ("strconv.ErrRange", laid_strconv_ErrRange), ("strconv.ErrSyntax", laid_strconv_ErrSyntax), ("unicode/utf8.first", laid_unicode_utf8_first)], narrowed := true }
def DecimalReadsUptoSaid : Prop := decimalReadsUptoRow.holds Tryd.pinned (OpenSpec.upto decimalReadsSpec)

/-- 'tabardlaw7.DecimalPrints', WHERE WHAT IT READS IS OF BULK AT MOST 1048576: true; the input reads as it did. -/
def decimalPrintsUptoRow : OpenClaim := { program := "ytcbepojookbceaadoor", sum := "a484f6e1867bf77455ea842520e8879fa498c19a5c027ef53108e700e17393d1", func := "tabard/tabardlaw7.DecimalPrints", spec := "decimalPrints", inPlace := ["internal/bytealg.IndexByteString", "internal/bytealg.IndexString", "internal/abi.NoEscape", "internal/bytealg.MakeNoZero", "internal/bytealg.abigen_runtime_cmpstring"], recurses := true, named := ["unicode/utf8.first", "unicode/utf8.acceptRanges", "strconv.ErrSyntax", "strconv.ErrRange", "internal/strconv.uint64pow10", "math/bits.deBruijn32tab", "math/bits.deBruijn64tab", "internal/bytealg.MaxLen"], apart := false, laid := [("math/bits.deBruijn32tab", laid_math_bits_deBruijn32tab), ("math/bits.deBruijn64tab", laid_math_bits_deBruijn64tab), ("internal/strconv.uint64pow10", laid_internal_strconv_uint64pow10), ("unicode/utf8.acceptRanges", laid_unicode_utf8_acceptRanges), ("strconv.ErrRange", laid_strconv_ErrRange), ("strconv.ErrSyntax", laid_strconv_ErrSyntax), ("unicode/utf8.first", laid_unicode_utf8_first)], narrowed := true }
def DecimalPrintsUptoSaid : Prop := decimalPrintsUptoRow.holds Tryd.pinned (OpenSpec.upto decimalPrintsSpec)

/-- 'tabardlaw7.DecimalOrders', WHERE WHAT IT READS IS OF BULK AT MOST 1048576: true; the input reads as it did. -/
def decimalOrdersUptoRow : OpenClaim := { program := "ytcbepojookbceaadoor", sum := "a484f6e1867bf77455ea842520e8879fa498c19a5c027ef53108e700e17393d1", func := "tabard/tabardlaw7.DecimalOrders", spec := "decimalOrders", inPlace := ["internal/bytealg.IndexByteString", "internal/bytealg.IndexString", "internal/abi.NoEscape", "internal/bytealg.MakeNoZero", "internal/bytealg.abigen_runtime_cmpstring"], named := ["unicode/utf8.first", "unicode/utf8.acceptRanges", "strconv.ErrSyntax", "strconv.ErrRange", "internal/strconv.uint64pow10", "math/bits.deBruijn32tab", "math/bits.deBruijn64tab", "internal/bytealg.MaxLen"], apart := false, laid := [("math/bits.deBruijn32tab", laid_math_bits_deBruijn32tab), ("math/bits.deBruijn64tab", laid_math_bits_deBruijn64tab), ("internal/strconv.uint64pow10", laid_internal_strconv_uint64pow10), ("unicode/utf8.acceptRanges", laid_unicode_utf8_acceptRanges), ("strconv.ErrRange", laid_strconv_ErrRange), ("strconv.ErrSyntax", laid_strconv_ErrSyntax), ("unicode/utf8.first", laid_unicode_utf8_first)], narrowed := true }
def DecimalOrdersUptoSaid : Prop := decimalOrdersUptoRow.holds Tryd.pinned (OpenSpec.upto decimalOrdersSpec)

/-- 'tabardlaw7.DecimalNears', WHERE WHAT IT READS IS OF BULK AT MOST 1048576: true; the input reads as it did. -/
def decimalNearsUptoRow : OpenClaim := { program := "ytcbepojookbceaadoor", sum := "a484f6e1867bf77455ea842520e8879fa498c19a5c027ef53108e700e17393d1", func := "tabard/tabardlaw7.DecimalNears", spec := "decimalNears", inPlace := ["internal/bytealg.IndexByteString", "internal/bytealg.IndexString", "internal/abi.NoEscape", "internal/bytealg.MakeNoZero", "internal/bytealg.abigen_runtime_cmpstring"], named := ["unicode/utf8.first", "unicode/utf8.acceptRanges", "strconv.ErrSyntax", "strconv.ErrRange", "internal/strconv.uint64pow10", "math/bits.deBruijn32tab", "math/bits.deBruijn64tab", "internal/bytealg.MaxLen"], apart := false, laid := [("math/bits.deBruijn32tab", laid_math_bits_deBruijn32tab), ("math/bits.deBruijn64tab", laid_math_bits_deBruijn64tab), ("internal/strconv.uint64pow10", laid_internal_strconv_uint64pow10), ("unicode/utf8.acceptRanges", laid_unicode_utf8_acceptRanges), ("strconv.ErrRange", laid_strconv_ErrRange), ("strconv.ErrSyntax", laid_strconv_ErrSyntax), ("unicode/utf8.first", laid_unicode_utf8_first)], narrowed := true }
def DecimalNearsUptoSaid : Prop := decimalNearsUptoRow.holds Tryd.pinned (OpenSpec.upto decimalNearsSpec)

end Rows
end Go.Proofs.YtcbepojookbceaaDoor
