/- The tie of the rows, of its parts. -/
import Derived.Test.YtdbhonkahlcdoaaGreatDoorRows
import Derived.LaidByTextLater
import Derived.SevenTiedAt
import Derived.ProofKit
import Derived.OpenShut
import Derived.Test.YtdbhonkahlcdoaaGreatDoorTieA
import Derived.Test.YtdbhonkahlcdoaaGreatDoorTieB
import Derived.Test.YtdbhonkahlcdoaaGreatDoorTieC
import Derived.Test.YtdbhonkahlcdoaaGreatDoorTieD
import Derived.Test.YtdbhonkahlcdoaaGreatDoorTieE
import Derived.Test.YtdbhonkahlcdoaaGreatDoorTieF
import Derived.Test.YtdbhonkahlcdoaaGreatDoorTieG
namespace Go.Proofs.YtdbhonkahlcdoaaGreatDoor
open Go
set_option maxRecDepth 100000
theorem t9 (os : Os) (tape : Tape) : (DataW.laidRun Tryz.prog (varsWorld Tryz.prog 400 (varsId Tryz.prog) os tape).memory 8 (tieL.map (·.1))).map (fun x => decide x.2.Nodup && laidRowsB Tryz.prog (varsWorld Tryz.prog 400 (varsId Tryz.prog) os tape).memory x.2) = some true := by
  have a := t9a os tape
  have b := t9b os tape
  generalize DataW.laidRun Tryz.prog (varsWorld Tryz.prog 400 (varsId Tryz.prog) os tape).memory 8 (tieL.map (·.1)) = X at a b ⊢
  cases X with
  | none => cases a
  | some x =>
    simp only [Option.map_some, Option.some.injEq] at a b ⊢
    rw [a, b]
    rfl
theorem tie : Tryz.prog.laidByTextLater [("strconv.ErrSyntax", Rows.laid_strconv_ErrSyntax), ("strconv.ErrRange", Rows.laid_strconv_ErrRange), ("internal/strconv.uint64pow10", Rows.laid_internal_strconv_uint64pow10), ("math/bits.deBruijn32tab", Rows.laid_math_bits_deBruijn32tab), ("math/bits.deBruijn64tab", Rows.laid_math_bits_deBruijn64tab), ("unicode/utf8.acceptRanges", Rows.laid_unicode_utf8_acceptRanges), ("strings.asciiSpace", Rows.laid_strings_asciiSpace), ("unicode.White_Space", Rows.laid_unicode_White_Space)] [.sentinel, .sentinel, .data, .data, .data, .data, .data, .listed] true := Program.laidByTextLater_by_run 400 8 t1 t2 t3 t4 t5 t6 t7 t8 t9
theorem builtinNames_row_tie : Rows.builtinNamesRow.laidByTextAt .later Tryz.pinned [.sentinel, .sentinel, .data, .data, .data, .pinned, .data, .data, .listed] true :=
  OpenClaim.laidByTextAt_pinned rfl rfl tie rfl rfl rfl rfl (fun y hy _e => by
    simp only [Rows.builtinNamesRow, List.zip_cons_cons, List.zip_nil_right, List.mem_cons, List.mem_nil_iff, or_false] at hy
    rcases hy with rfl | rfl | rfl | rfl | rfl | rfl | rfl | rfl | rfl
    · cases _e
    · cases _e
    · cases _e
    · cases _e
    · cases _e
    · exact ⟨pin_laid_unicode_utf8_first, by kernel_rfl⟩
    · cases _e
    · cases _e
    · cases _e) fits1
theorem builtinErrors_row_tie : Rows.builtinErrorsRow.laidByTextAt .later Tryz.pinned [.sentinel, .sentinel, .data, .data, .data, .pinned, .data, .data, .listed] true :=
  OpenClaim.laidByTextAt_pinned rfl rfl tie rfl rfl rfl rfl (fun y hy _e => by
    simp only [Rows.builtinErrorsRow, List.zip_cons_cons, List.zip_nil_right, List.mem_cons, List.mem_nil_iff, or_false] at hy
    rcases hy with rfl | rfl | rfl | rfl | rfl | rfl | rfl | rfl | rfl
    · cases _e
    · cases _e
    · cases _e
    · cases _e
    · cases _e
    · exact ⟨pin_laid_unicode_utf8_first, by kernel_rfl⟩
    · cases _e
    · cases _e
    · cases _e) fits1
theorem builtinPromises_row_tie : Rows.builtinPromisesRow.laidByTextAt .later Tryz.pinned [.sentinel, .sentinel, .data, .data, .data, .pinned, .data, .data, .listed] true :=
  OpenClaim.laidByTextAt_pinned rfl rfl tie rfl rfl rfl rfl (fun y hy _e => by
    simp only [Rows.builtinPromisesRow, List.zip_cons_cons, List.zip_nil_right, List.mem_cons, List.mem_nil_iff, or_false] at hy
    rcases hy with rfl | rfl | rfl | rfl | rfl | rfl | rfl | rfl | rfl
    · cases _e
    · cases _e
    · cases _e
    · cases _e
    · cases _e
    · exact ⟨pin_laid_unicode_utf8_first, by kernel_rfl⟩
    · cases _e
    · cases _e
    · cases _e) fits1
end Go.Proofs.YtdbhonkahlcdoaaGreatDoor
