/-
  DERIVED. GIVEN WITH THE SEED: THE PROGRAM's TIES (one call each: nine closed facts by the kernel) AND EACH ROW's TIE, after the 31st guide's Derived/Test/Toyas{Tie, Card}.lean. No idea stands in it: it is a product of the set-up. Laid BY PROGRAM, IN A SANDBOX (cutbox-door.mjs). By AI agents, Wed Nov 11 2026. No macro, syntax, notation, axiom, sorry.
-/
import Derived.Test.YtpnigfmclmfjaaaGreatDoorRows
import Derived.LaidByTextLater
import Derived.SevenTiedAt
import Derived.LaidSub
import Derived.LaidOnce
namespace Go.Proofs.YtpnigfmclmfjaaaGreatDoor
open Go
set_option maxRecDepth 100000
theorem seatTie1 : Tryz.prog.laidByTextLater [("math/bits.deBruijn32tab", Rows.laid_math_bits_deBruijn32tab), ("math/bits.deBruijn64tab", Rows.laid_math_bits_deBruijn64tab), ("internal/strconv.uint64pow10", Rows.laid_internal_strconv_uint64pow10), ("unicode/utf8.acceptRanges", Rows.laid_unicode_utf8_acceptRanges), ("strconv.ErrRange", Rows.laid_strconv_ErrRange), ("strconv.ErrSyntax", Rows.laid_strconv_ErrSyntax), ("triggerstore/triggerstoreref12.operators", Rows.laid_triggerstore_triggerstoreref12_operators), ("triggerstore/triggerstoreref12.types", Rows.laid_triggerstore_triggerstoreref12_types), ("triggerstore/triggerstoreref12.events", Rows.laid_triggerstore_triggerstoreref12_events), ("triggerstore/triggerstoreworld.triggerNames", Rows.laid_triggerstore_triggerstoreworld_triggerNames), ("triggerstore/triggerstoreworld.words", Rows.laid_triggerstore_triggerstoreworld_words), ("triggerstore/triggerstoreworld.names", Rows.laid_triggerstore_triggerstoreworld_names), ("triggerstore/triggerstorelaw10.bits", Rows.laid_triggerstore_triggerstorelaw10_bits)] [.data, .data, .data, .data, .sentinel, .sentinel, .data, .data, .data, .data, .data, .data, .data] true :=
  Program.laidByTextLater_by_one 107 8 65 (by kernel_rfl) (by kernel_rfl) (by kernel_rfl) (by kernel_rfl) (by kernel_rfl) (by kernel_rfl) (fun _ _ => by kernel_rfl)
theorem pin_laid_unicode_utf8_first : Tryz.pinned.checked.prog.pinnedFits "unicode/utf8.first" = true := by kernel_rfl
theorem noOwnUnsafe : Tryz.pinned.checked.prog.headLifts.contains "ownunsafe" = false := by kernel_rfl
theorem tie : Tryz.prog.laidByTextLater [("triggerstore/triggerstoreworld.triggerNames", Rows.laid_triggerstore_triggerstoreworld_triggerNames), ("triggerstore/triggerstoreworld.words", Rows.laid_triggerstore_triggerstoreworld_words), ("triggerstore/triggerstoreworld.names", Rows.laid_triggerstore_triggerstoreworld_names)] [.data, .data, .data] true :=
  Program.laidByTextLater.sub seatTie1 ["triggerstore/triggerstoreworld.triggerNames", "triggerstore/triggerstoreworld.words", "triggerstore/triggerstoreworld.names"] (by kernel_rfl) (by kernel_rfl)
theorem syntaxStatements_row_tie : Rows.syntaxStatementsRow.laidByTextAt .later Tryz.pinned [.data, .data, .data] true :=
  OpenClaim.laidByTextAt_later rfl rfl tie noOwnUnsafe
theorem fits2 : Tryz.pinned.checked.prog.listedFits [("math/bits.deBruijn32tab", Rows.laid_math_bits_deBruijn32tab), ("math/bits.deBruijn64tab", Rows.laid_math_bits_deBruijn64tab), ("internal/strconv.uint64pow10", Rows.laid_internal_strconv_uint64pow10), ("unicode/utf8.acceptRanges", Rows.laid_unicode_utf8_acceptRanges), ("triggerstore/triggerstoreref12.operators", Rows.laid_triggerstore_triggerstoreref12_operators), ("triggerstore/triggerstoreworld.words", Rows.laid_triggerstore_triggerstoreworld_words), ("triggerstore/triggerstoreworld.names", Rows.laid_triggerstore_triggerstoreworld_names), ("unicode/utf8.first", Rows.laid_unicode_utf8_first)] = true := by
  unfold Program.listedFits
  rw [noOwnUnsafe]
  kernel_rfl
theorem tie2 : Tryz.prog.laidByTextLater [("math/bits.deBruijn32tab", Rows.laid_math_bits_deBruijn32tab), ("math/bits.deBruijn64tab", Rows.laid_math_bits_deBruijn64tab), ("internal/strconv.uint64pow10", Rows.laid_internal_strconv_uint64pow10), ("unicode/utf8.acceptRanges", Rows.laid_unicode_utf8_acceptRanges), ("triggerstore/triggerstoreref12.operators", Rows.laid_triggerstore_triggerstoreref12_operators), ("triggerstore/triggerstoreworld.words", Rows.laid_triggerstore_triggerstoreworld_words), ("triggerstore/triggerstoreworld.names", Rows.laid_triggerstore_triggerstoreworld_names)] [.data, .data, .data, .data, .data, .data, .data] true :=
  Program.laidByTextLater.sub seatTie1 ["math/bits.deBruijn32tab", "math/bits.deBruijn64tab", "internal/strconv.uint64pow10", "unicode/utf8.acceptRanges", "triggerstore/triggerstoreref12.operators", "triggerstore/triggerstoreworld.words", "triggerstore/triggerstoreworld.names"] (by kernel_rfl) (by kernel_rfl)
theorem printExprs_row_tie : Rows.printExprsRow.laidByTextAt .later Tryz.pinned [.data, .data, .data, .data, .data, .data, .data, .pinned] true :=
  OpenClaim.laidByTextAt_pinned rfl rfl tie2 rfl rfl rfl rfl (fun y hy _e => by
    simp only [Rows.printExprsRow, List.zip_cons_cons, List.zip_nil_right, List.mem_cons, List.mem_nil_iff, or_false] at hy
    rcases hy with rfl | rfl | rfl | rfl | rfl | rfl | rfl | rfl
    · cases _e
    · cases _e
    · cases _e
    · cases _e
    · cases _e
    · cases _e
    · cases _e
    · exact ⟨pin_laid_unicode_utf8_first, by kernel_rfl⟩) fits2
theorem fits3 : Tryz.pinned.checked.prog.listedFits [("math/bits.deBruijn32tab", Rows.laid_math_bits_deBruijn32tab), ("math/bits.deBruijn64tab", Rows.laid_math_bits_deBruijn64tab), ("internal/strconv.uint64pow10", Rows.laid_internal_strconv_uint64pow10), ("unicode/utf8.acceptRanges", Rows.laid_unicode_utf8_acceptRanges), ("strconv.ErrRange", Rows.laid_strconv_ErrRange), ("strconv.ErrSyntax", Rows.laid_strconv_ErrSyntax), ("triggerstore/triggerstoreref12.operators", Rows.laid_triggerstore_triggerstoreref12_operators), ("triggerstore/triggerstoreref12.types", Rows.laid_triggerstore_triggerstoreref12_types), ("triggerstore/triggerstoreref12.events", Rows.laid_triggerstore_triggerstoreref12_events), ("triggerstore/triggerstoreworld.triggerNames", Rows.laid_triggerstore_triggerstoreworld_triggerNames), ("triggerstore/triggerstoreworld.words", Rows.laid_triggerstore_triggerstoreworld_words), ("triggerstore/triggerstoreworld.names", Rows.laid_triggerstore_triggerstoreworld_names), ("unicode/utf8.first", Rows.laid_unicode_utf8_first)] = true := by
  unfold Program.listedFits
  rw [noOwnUnsafe]
  kernel_rfl
theorem tie3 : Tryz.prog.laidByTextLater [("math/bits.deBruijn32tab", Rows.laid_math_bits_deBruijn32tab), ("math/bits.deBruijn64tab", Rows.laid_math_bits_deBruijn64tab), ("internal/strconv.uint64pow10", Rows.laid_internal_strconv_uint64pow10), ("unicode/utf8.acceptRanges", Rows.laid_unicode_utf8_acceptRanges), ("strconv.ErrRange", Rows.laid_strconv_ErrRange), ("strconv.ErrSyntax", Rows.laid_strconv_ErrSyntax), ("triggerstore/triggerstoreref12.operators", Rows.laid_triggerstore_triggerstoreref12_operators), ("triggerstore/triggerstoreref12.types", Rows.laid_triggerstore_triggerstoreref12_types), ("triggerstore/triggerstoreref12.events", Rows.laid_triggerstore_triggerstoreref12_events), ("triggerstore/triggerstoreworld.triggerNames", Rows.laid_triggerstore_triggerstoreworld_triggerNames), ("triggerstore/triggerstoreworld.words", Rows.laid_triggerstore_triggerstoreworld_words), ("triggerstore/triggerstoreworld.names", Rows.laid_triggerstore_triggerstoreworld_names)] [.data, .data, .data, .data, .sentinel, .sentinel, .data, .data, .data, .data, .data, .data] true :=
  Program.laidByTextLater.sub seatTie1 ["math/bits.deBruijn32tab", "math/bits.deBruijn64tab", "internal/strconv.uint64pow10", "unicode/utf8.acceptRanges", "strconv.ErrRange", "strconv.ErrSyntax", "triggerstore/triggerstoreref12.operators", "triggerstore/triggerstoreref12.types", "triggerstore/triggerstoreref12.events", "triggerstore/triggerstoreworld.triggerNames", "triggerstore/triggerstoreworld.words", "triggerstore/triggerstoreworld.names"] (by kernel_rfl) (by kernel_rfl)
theorem tokenAgain_row_tie : Rows.tokenAgainRow.laidByTextAt .later Tryz.pinned [.data, .data, .data, .data, .sentinel, .sentinel, .data, .data, .data, .data, .data, .data, .pinned] true :=
  OpenClaim.laidByTextAt_pinned rfl rfl tie3 rfl rfl rfl rfl (fun y hy _e => by
    simp only [Rows.tokenAgainRow, List.zip_cons_cons, List.zip_nil_right, List.mem_cons, List.mem_nil_iff, or_false] at hy
    rcases hy with rfl | rfl | rfl | rfl | rfl | rfl | rfl | rfl | rfl | rfl | rfl | rfl | rfl
    · cases _e
    · cases _e
    · cases _e
    · cases _e
    · cases _e
    · cases _e
    · cases _e
    · cases _e
    · cases _e
    · cases _e
    · cases _e
    · cases _e
    · exact ⟨pin_laid_unicode_utf8_first, by kernel_rfl⟩) fits3
theorem parseBack_row_tie : Rows.parseBackRow.laidByTextAt .later Tryz.pinned [.data, .data, .data, .data, .sentinel, .sentinel, .data, .data, .data, .data, .data, .data, .pinned] true :=
  OpenClaim.laidByTextAt_pinned rfl rfl tie3 rfl rfl rfl rfl (fun y hy _e => by
    simp only [Rows.parseBackRow, List.zip_cons_cons, List.zip_nil_right, List.mem_cons, List.mem_nil_iff, or_false] at hy
    rcases hy with rfl | rfl | rfl | rfl | rfl | rfl | rfl | rfl | rfl | rfl | rfl | rfl | rfl
    · cases _e
    · cases _e
    · cases _e
    · cases _e
    · cases _e
    · cases _e
    · cases _e
    · cases _e
    · cases _e
    · cases _e
    · cases _e
    · cases _e
    · exact ⟨pin_laid_unicode_utf8_first, by kernel_rfl⟩) fits3
theorem fits4 : Tryz.pinned.checked.prog.listedFits [("math/bits.deBruijn32tab", Rows.laid_math_bits_deBruijn32tab), ("math/bits.deBruijn64tab", Rows.laid_math_bits_deBruijn64tab), ("internal/strconv.uint64pow10", Rows.laid_internal_strconv_uint64pow10), ("unicode/utf8.acceptRanges", Rows.laid_unicode_utf8_acceptRanges), ("strconv.ErrRange", Rows.laid_strconv_ErrRange), ("strconv.ErrSyntax", Rows.laid_strconv_ErrSyntax), ("triggerstore/triggerstoreref12.operators", Rows.laid_triggerstore_triggerstoreref12_operators), ("triggerstore/triggerstoreref12.types", Rows.laid_triggerstore_triggerstoreref12_types), ("triggerstore/triggerstoreref12.events", Rows.laid_triggerstore_triggerstoreref12_events), ("triggerstore/triggerstoreworld.triggerNames", Rows.laid_triggerstore_triggerstoreworld_triggerNames), ("triggerstore/triggerstoreworld.words", Rows.laid_triggerstore_triggerstoreworld_words), ("triggerstore/triggerstoreworld.names", Rows.laid_triggerstore_triggerstoreworld_names), ("triggerstore/triggerstorelaw10.bits", Rows.laid_triggerstore_triggerstorelaw10_bits), ("unicode/utf8.first", Rows.laid_unicode_utf8_first)] = true := by
  unfold Program.listedFits
  rw [noOwnUnsafe]
  kernel_rfl
theorem tie4 : Tryz.prog.laidByTextLater [("math/bits.deBruijn32tab", Rows.laid_math_bits_deBruijn32tab), ("math/bits.deBruijn64tab", Rows.laid_math_bits_deBruijn64tab), ("internal/strconv.uint64pow10", Rows.laid_internal_strconv_uint64pow10), ("unicode/utf8.acceptRanges", Rows.laid_unicode_utf8_acceptRanges), ("strconv.ErrRange", Rows.laid_strconv_ErrRange), ("strconv.ErrSyntax", Rows.laid_strconv_ErrSyntax), ("triggerstore/triggerstoreref12.operators", Rows.laid_triggerstore_triggerstoreref12_operators), ("triggerstore/triggerstoreref12.types", Rows.laid_triggerstore_triggerstoreref12_types), ("triggerstore/triggerstoreref12.events", Rows.laid_triggerstore_triggerstoreref12_events), ("triggerstore/triggerstoreworld.triggerNames", Rows.laid_triggerstore_triggerstoreworld_triggerNames), ("triggerstore/triggerstoreworld.words", Rows.laid_triggerstore_triggerstoreworld_words), ("triggerstore/triggerstoreworld.names", Rows.laid_triggerstore_triggerstoreworld_names), ("triggerstore/triggerstorelaw10.bits", Rows.laid_triggerstore_triggerstorelaw10_bits)] [.data, .data, .data, .data, .sentinel, .sentinel, .data, .data, .data, .data, .data, .data, .data] true :=
  Program.laidByTextLater.sub seatTie1 ["math/bits.deBruijn32tab", "math/bits.deBruijn64tab", "internal/strconv.uint64pow10", "unicode/utf8.acceptRanges", "strconv.ErrRange", "strconv.ErrSyntax", "triggerstore/triggerstoreref12.operators", "triggerstore/triggerstoreref12.types", "triggerstore/triggerstoreref12.events", "triggerstore/triggerstoreworld.triggerNames", "triggerstore/triggerstoreworld.words", "triggerstore/triggerstoreworld.names", "triggerstore/triggerstorelaw10.bits"] (by kernel_rfl) (by kernel_rfl)
theorem tokenReads_row_tie : Rows.tokenReadsRow.laidByTextAt .later Tryz.pinned [.data, .data, .data, .data, .sentinel, .sentinel, .data, .data, .data, .data, .data, .data, .data, .pinned] true :=
  OpenClaim.laidByTextAt_pinned rfl rfl tie4 rfl rfl rfl rfl (fun y hy _e => by
    simp only [Rows.tokenReadsRow, List.zip_cons_cons, List.zip_nil_right, List.mem_cons, List.mem_nil_iff, or_false] at hy
    rcases hy with rfl | rfl | rfl | rfl | rfl | rfl | rfl | rfl | rfl | rfl | rfl | rfl | rfl | rfl
    · cases _e
    · cases _e
    · cases _e
    · cases _e
    · cases _e
    · cases _e
    · cases _e
    · cases _e
    · cases _e
    · cases _e
    · cases _e
    · cases _e
    · cases _e
    · exact ⟨pin_laid_unicode_utf8_first, by kernel_rfl⟩) fits4
theorem fits5 : Tryz.pinned.checked.prog.listedFits [("math/bits.deBruijn32tab", Rows.laid_math_bits_deBruijn32tab), ("math/bits.deBruijn64tab", Rows.laid_math_bits_deBruijn64tab), ("internal/strconv.uint64pow10", Rows.laid_internal_strconv_uint64pow10), ("unicode/utf8.acceptRanges", Rows.laid_unicode_utf8_acceptRanges), ("triggerstore/triggerstoreref12.operators", Rows.laid_triggerstore_triggerstoreref12_operators), ("triggerstore/triggerstoreref12.types", Rows.laid_triggerstore_triggerstoreref12_types), ("triggerstore/triggerstoreref12.events", Rows.laid_triggerstore_triggerstoreref12_events), ("triggerstore/triggerstoreworld.triggerNames", Rows.laid_triggerstore_triggerstoreworld_triggerNames), ("triggerstore/triggerstoreworld.words", Rows.laid_triggerstore_triggerstoreworld_words), ("triggerstore/triggerstoreworld.names", Rows.laid_triggerstore_triggerstoreworld_names), ("unicode/utf8.first", Rows.laid_unicode_utf8_first)] = true := by
  unfold Program.listedFits
  rw [noOwnUnsafe]
  kernel_rfl
theorem tie5 : Tryz.prog.laidByTextLater [("math/bits.deBruijn32tab", Rows.laid_math_bits_deBruijn32tab), ("math/bits.deBruijn64tab", Rows.laid_math_bits_deBruijn64tab), ("internal/strconv.uint64pow10", Rows.laid_internal_strconv_uint64pow10), ("unicode/utf8.acceptRanges", Rows.laid_unicode_utf8_acceptRanges), ("triggerstore/triggerstoreref12.operators", Rows.laid_triggerstore_triggerstoreref12_operators), ("triggerstore/triggerstoreref12.types", Rows.laid_triggerstore_triggerstoreref12_types), ("triggerstore/triggerstoreref12.events", Rows.laid_triggerstore_triggerstoreref12_events), ("triggerstore/triggerstoreworld.triggerNames", Rows.laid_triggerstore_triggerstoreworld_triggerNames), ("triggerstore/triggerstoreworld.words", Rows.laid_triggerstore_triggerstoreworld_words), ("triggerstore/triggerstoreworld.names", Rows.laid_triggerstore_triggerstoreworld_names)] [.data, .data, .data, .data, .data, .data, .data, .data, .data, .data] true :=
  Program.laidByTextLater.sub seatTie1 ["math/bits.deBruijn32tab", "math/bits.deBruijn64tab", "internal/strconv.uint64pow10", "unicode/utf8.acceptRanges", "triggerstore/triggerstoreref12.operators", "triggerstore/triggerstoreref12.types", "triggerstore/triggerstoreref12.events", "triggerstore/triggerstoreworld.triggerNames", "triggerstore/triggerstoreworld.words", "triggerstore/triggerstoreworld.names"] (by kernel_rfl) (by kernel_rfl)
theorem printStatements_row_tie : Rows.printStatementsRow.laidByTextAt .later Tryz.pinned [.data, .data, .data, .data, .data, .data, .data, .data, .data, .data, .pinned] true :=
  OpenClaim.laidByTextAt_pinned rfl rfl tie5 rfl rfl rfl rfl (fun y hy _e => by
    simp only [Rows.printStatementsRow, List.zip_cons_cons, List.zip_nil_right, List.mem_cons, List.mem_nil_iff, or_false] at hy
    rcases hy with rfl | rfl | rfl | rfl | rfl | rfl | rfl | rfl | rfl | rfl | rfl
    · cases _e
    · cases _e
    · cases _e
    · cases _e
    · cases _e
    · cases _e
    · cases _e
    · cases _e
    · cases _e
    · cases _e
    · exact ⟨pin_laid_unicode_utf8_first, by kernel_rfl⟩) fits5
theorem fits6 : Tryz.pinned.checked.prog.listedFits [("math/bits.deBruijn32tab", Rows.laid_math_bits_deBruijn32tab), ("math/bits.deBruijn64tab", Rows.laid_math_bits_deBruijn64tab), ("internal/strconv.uint64pow10", Rows.laid_internal_strconv_uint64pow10), ("unicode/utf8.acceptRanges", Rows.laid_unicode_utf8_acceptRanges), ("triggerstore/triggerstoreworld.triggerNames", Rows.laid_triggerstore_triggerstoreworld_triggerNames), ("triggerstore/triggerstoreworld.words", Rows.laid_triggerstore_triggerstoreworld_words), ("triggerstore/triggerstoreworld.names", Rows.laid_triggerstore_triggerstoreworld_names), ("unicode/utf8.first", Rows.laid_unicode_utf8_first)] = true := by
  unfold Program.listedFits
  rw [noOwnUnsafe]
  kernel_rfl
theorem tie6 : Tryz.prog.laidByTextLater [("math/bits.deBruijn32tab", Rows.laid_math_bits_deBruijn32tab), ("math/bits.deBruijn64tab", Rows.laid_math_bits_deBruijn64tab), ("internal/strconv.uint64pow10", Rows.laid_internal_strconv_uint64pow10), ("unicode/utf8.acceptRanges", Rows.laid_unicode_utf8_acceptRanges), ("triggerstore/triggerstoreworld.triggerNames", Rows.laid_triggerstore_triggerstoreworld_triggerNames), ("triggerstore/triggerstoreworld.words", Rows.laid_triggerstore_triggerstoreworld_words), ("triggerstore/triggerstoreworld.names", Rows.laid_triggerstore_triggerstoreworld_names)] [.data, .data, .data, .data, .data, .data, .data] true :=
  Program.laidByTextLater.sub seatTie1 ["math/bits.deBruijn32tab", "math/bits.deBruijn64tab", "internal/strconv.uint64pow10", "unicode/utf8.acceptRanges", "triggerstore/triggerstoreworld.triggerNames", "triggerstore/triggerstoreworld.words", "triggerstore/triggerstoreworld.names"] (by kernel_rfl) (by kernel_rfl)
theorem printTokens_row_tie : Rows.printTokensRow.laidByTextAt .later Tryz.pinned [.data, .data, .data, .data, .data, .data, .data, .pinned] true :=
  OpenClaim.laidByTextAt_pinned rfl rfl tie6 rfl rfl rfl rfl (fun y hy _e => by
    simp only [Rows.printTokensRow, List.zip_cons_cons, List.zip_nil_right, List.mem_cons, List.mem_nil_iff, or_false] at hy
    rcases hy with rfl | rfl | rfl | rfl | rfl | rfl | rfl | rfl
    · cases _e
    · cases _e
    · cases _e
    · cases _e
    · cases _e
    · cases _e
    · cases _e
    · exact ⟨pin_laid_unicode_utf8_first, by kernel_rfl⟩) fits6
theorem tie7 : Tryz.prog.laidByTextLater [("math/bits.deBruijn32tab", Rows.laid_math_bits_deBruijn32tab), ("math/bits.deBruijn64tab", Rows.laid_math_bits_deBruijn64tab), ("internal/strconv.uint64pow10", Rows.laid_internal_strconv_uint64pow10), ("strconv.ErrRange", Rows.laid_strconv_ErrRange), ("strconv.ErrSyntax", Rows.laid_strconv_ErrSyntax)] [.data, .data, .data, .sentinel, .sentinel] true :=
  Program.laidByTextLater.sub seatTie1 ["math/bits.deBruijn32tab", "math/bits.deBruijn64tab", "internal/strconv.uint64pow10", "strconv.ErrRange", "strconv.ErrSyntax"] (by kernel_rfl) (by kernel_rfl)
theorem parseLevels_row_tie : Rows.parseLevelsRow.laidByTextAt .later Tryz.pinned [.data, .data, .data, .sentinel, .sentinel] true :=
  OpenClaim.laidByTextAt_later rfl rfl tie7 noOwnUnsafe
theorem syntaxStatementsUpto_row_tie : Rows.syntaxStatementsUptoRow.laidByTextAt .later Tryz.pinned [.data, .data, .data] true :=
  OpenClaim.laidByTextAt_later rfl rfl tie noOwnUnsafe
theorem printExprsUpto_row_tie : Rows.printExprsUptoRow.laidByTextAt .later Tryz.pinned [.data, .data, .data, .data, .data, .data, .data, .pinned] true :=
  OpenClaim.laidByTextAt_pinned rfl rfl tie2 rfl rfl rfl rfl (fun y hy _e => by
    simp only [Rows.printExprsUptoRow, List.zip_cons_cons, List.zip_nil_right, List.mem_cons, List.mem_nil_iff, or_false] at hy
    rcases hy with rfl | rfl | rfl | rfl | rfl | rfl | rfl | rfl
    · cases _e
    · cases _e
    · cases _e
    · cases _e
    · cases _e
    · cases _e
    · cases _e
    · exact ⟨pin_laid_unicode_utf8_first, by kernel_rfl⟩) fits2
theorem tokenAgainUpto_row_tie : Rows.tokenAgainUptoRow.laidByTextAt .later Tryz.pinned [.data, .data, .data, .data, .sentinel, .sentinel, .data, .data, .data, .data, .data, .data, .pinned] true :=
  OpenClaim.laidByTextAt_pinned rfl rfl tie3 rfl rfl rfl rfl (fun y hy _e => by
    simp only [Rows.tokenAgainUptoRow, List.zip_cons_cons, List.zip_nil_right, List.mem_cons, List.mem_nil_iff, or_false] at hy
    rcases hy with rfl | rfl | rfl | rfl | rfl | rfl | rfl | rfl | rfl | rfl | rfl | rfl | rfl
    · cases _e
    · cases _e
    · cases _e
    · cases _e
    · cases _e
    · cases _e
    · cases _e
    · cases _e
    · cases _e
    · cases _e
    · cases _e
    · cases _e
    · exact ⟨pin_laid_unicode_utf8_first, by kernel_rfl⟩) fits3
theorem tokenReadsUpto_row_tie : Rows.tokenReadsUptoRow.laidByTextAt .later Tryz.pinned [.data, .data, .data, .data, .sentinel, .sentinel, .data, .data, .data, .data, .data, .data, .data, .pinned] true :=
  OpenClaim.laidByTextAt_pinned rfl rfl tie4 rfl rfl rfl rfl (fun y hy _e => by
    simp only [Rows.tokenReadsUptoRow, List.zip_cons_cons, List.zip_nil_right, List.mem_cons, List.mem_nil_iff, or_false] at hy
    rcases hy with rfl | rfl | rfl | rfl | rfl | rfl | rfl | rfl | rfl | rfl | rfl | rfl | rfl | rfl
    · cases _e
    · cases _e
    · cases _e
    · cases _e
    · cases _e
    · cases _e
    · cases _e
    · cases _e
    · cases _e
    · cases _e
    · cases _e
    · cases _e
    · cases _e
    · exact ⟨pin_laid_unicode_utf8_first, by kernel_rfl⟩) fits4
theorem printStatementsUpto_row_tie : Rows.printStatementsUptoRow.laidByTextAt .later Tryz.pinned [.data, .data, .data, .data, .data, .data, .data, .data, .data, .data, .pinned] true :=
  OpenClaim.laidByTextAt_pinned rfl rfl tie5 rfl rfl rfl rfl (fun y hy _e => by
    simp only [Rows.printStatementsUptoRow, List.zip_cons_cons, List.zip_nil_right, List.mem_cons, List.mem_nil_iff, or_false] at hy
    rcases hy with rfl | rfl | rfl | rfl | rfl | rfl | rfl | rfl | rfl | rfl | rfl
    · cases _e
    · cases _e
    · cases _e
    · cases _e
    · cases _e
    · cases _e
    · cases _e
    · cases _e
    · cases _e
    · cases _e
    · exact ⟨pin_laid_unicode_utf8_first, by kernel_rfl⟩) fits5
theorem printTokensUpto_row_tie : Rows.printTokensUptoRow.laidByTextAt .later Tryz.pinned [.data, .data, .data, .data, .data, .data, .data, .pinned] true :=
  OpenClaim.laidByTextAt_pinned rfl rfl tie6 rfl rfl rfl rfl (fun y hy _e => by
    simp only [Rows.printTokensUptoRow, List.zip_cons_cons, List.zip_nil_right, List.mem_cons, List.mem_nil_iff, or_false] at hy
    rcases hy with rfl | rfl | rfl | rfl | rfl | rfl | rfl | rfl
    · cases _e
    · cases _e
    · cases _e
    · cases _e
    · cases _e
    · cases _e
    · cases _e
    · exact ⟨pin_laid_unicode_utf8_first, by kernel_rfl⟩) fits6
theorem parseLevelsUpto_row_tie : Rows.parseLevelsUptoRow.laidByTextAt .later Tryz.pinned [.data, .data, .data, .sentinel, .sentinel] true :=
  OpenClaim.laidByTextAt_later rfl rfl tie7 noOwnUnsafe
theorem parseBackUpto_row_tie : Rows.parseBackUptoRow.laidByTextAt .later Tryz.pinned [.data, .data, .data, .data, .sentinel, .sentinel, .data, .data, .data, .data, .data, .data, .pinned] true :=
  OpenClaim.laidByTextAt_pinned rfl rfl tie3 rfl rfl rfl rfl (fun y hy _e => by
    simp only [Rows.parseBackUptoRow, List.zip_cons_cons, List.zip_nil_right, List.mem_cons, List.mem_nil_iff, or_false] at hy
    rcases hy with rfl | rfl | rfl | rfl | rfl | rfl | rfl | rfl | rfl | rfl | rfl | rfl | rfl
    · cases _e
    · cases _e
    · cases _e
    · cases _e
    · cases _e
    · cases _e
    · cases _e
    · cases _e
    · cases _e
    · cases _e
    · cases _e
    · cases _e
    · exact ⟨pin_laid_unicode_utf8_first, by kernel_rfl⟩) fits3
end Go.Proofs.YtpnigfmclmfjaaaGreatDoor
