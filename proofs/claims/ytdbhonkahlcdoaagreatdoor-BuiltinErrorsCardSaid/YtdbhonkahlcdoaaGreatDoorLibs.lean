/- What a row lays of the library's variables, as the walks take it. -/
import Derived.Test.YtdbhonkahlcdoaaGreatDoorAnsP
import Derived.Test.YtdbhonkahlcdoaaGreatDoorRows
import Derived.Stop.LaidErr
import Derived.Lib.LaidTab
import Derived.ProofKit
namespace Go.Proofs.YtdbhonkahlcdoaaGreatDoor
open Go
set_option maxRecDepth 100000
theorem tab_of {l : List (String × DataW Unit)} {W : World} {name : String} {k : IntKind} {zs : List Int} {g : Nat} {t e : TypeId} {n : Nat}
    (hg : Tryz.prog.globalNamed name = some g) (hty : (Tryz.prog.globals[g]?).map (·.type) = some t) (ht : Tryz.prog.underlying t = some (.array n e)) (he : Tryz.prog.underlying e = some (.int k)) (hce : Tryz.prog.cellsOf e = 1) (hct : Tryz.prog.cellsOf t = n)
    (hL : laidMet Tryz.prog l W) (hm : (name, Lib.tabData k zs) ∈ l) : Lib.TabIs Tryz.prog W name k zs := by
  induction l with
  | nil => cases hm
  | cons x l ih =>
    rcases List.mem_cons.1 hm with h | h
    · subst h; exact Lib.tabIs_of_head hg hty ht he hce hct hL
    · exact ih hL.tail h
theorem err_of {l : List (String × DataW Unit)} {W : World} {n nm : String} {text : List UInt8} {g : Nat} {ti tp te ts : TypeId} {ms : Array (String × TypeId)} {f : Field}
    (hg : Tryz.prog.globalNamed n = some g) (ht : (Tryz.prog.globals[g]?).map (·.type) = some ti) (hi : Tryz.prog.underlying ti = some (.interface ms)) (hrow : ∀ u, Tryz.prog.typeName? 3 u = some nm → u = tp)
    (hp : Tryz.prog.underlying tp = some (.pointer te)) (he : Tryz.prog.underlying te = some (.struct #[f])) (hft : f.type = ts) (hfo : f.offset = 0) (hs : Tryz.prog.underlying ts = some .string) (hc : Tryz.prog.cellsOf te = 1) (hcs : Tryz.prog.cellsOf ts = 1)
    (hL : laidMet Tryz.prog l W) (hm : (n, .iface nm (.ptr (.agg [.lit (.string text)]))) ∈ l) : ∃ te pe, W.var? Tryz.prog n = some #[.iface te pe] := by
  induction l with
  | nil => cases hm
  | cons x l ih =>
    rcases List.mem_cons.1 hm with h | h
    · subst h
      obtain ⟨a, s, hv, _⟩ := laid_sentinel hL hg ht hi hrow hp he hft hfo hs hc hcs
      exact ⟨_, _, hv⟩
    · exact ih hL.tail h
theorem tA : (Tryz.prog.globals[0]?).map (·.type) = some 142 := by kernel_rfl
theorem tP : (Tryz.prog.globals[4]?).map (·.type) = some 368 := by kernel_rfl
theorem tE : (Tryz.prog.globals[5]?).map (·.type) = some 135 := by kernel_rfl
theorem star : "*" ++ "errors.errorString" = "*errors.errorString" := by decide
theorem rowE (u : TypeId) (h : Tryz.prog.typeName? 3 u = some "*errors.errorString") : u = 485 :=
  typeName_ptr_named (nm := "errors.errorString") (by rw [star]; kernel_rfl) (by kernel_rfl) (by decide) u (by rw [star]; exact h)
theorem spEq : (Rows.laid_strings_asciiSpace : DataW Unit) = Lib.tabData .u8 Lib.asciiSpaceTab := by kernel_rfl
theorem pwEq : (Rows.laid_internal_strconv_uint64pow10 : DataW Unit) = Lib.tabData .u64 Lib.pow10Tab := by kernel_rfl
theorem libs_of_laid {W : World} (hL : laidMet Tryz.prog [("strconv.ErrSyntax", Rows.laid_strconv_ErrSyntax), ("strconv.ErrRange", Rows.laid_strconv_ErrRange), ("internal/strconv.uint64pow10", Rows.laid_internal_strconv_uint64pow10), ("math/bits.deBruijn32tab", Rows.laid_math_bits_deBruijn32tab), ("math/bits.deBruijn64tab", Rows.laid_math_bits_deBruijn64tab), ("unicode/utf8.first", Rows.laid_unicode_utf8_first), ("unicode/utf8.acceptRanges", Rows.laid_unicode_utf8_acceptRanges), ("strings.asciiSpace", Rows.laid_strings_asciiSpace), ("unicode.White_Space", Rows.laid_unicode_White_Space)] W) : Libs W := by
  refine ⟨?_, ?_, ?_⟩
  · refine tab_of gA tA Tryz.underlying142 Tryz.underlying5 (by kernel_rfl) (by kernel_rfl) hL ?_
    rw [← spEq]
    exact .tail _ (.tail _ (.tail _ (.tail _ (.tail _ (.tail _ (.tail _ (.head _)))))))
  · refine err_of (nm := "*errors.errorString") gE tE Tryz.underlying135 rowE Tryz.underlying485 Tryz.underlying487 rfl rfl Tryz.underlying9 (by kernel_rfl) (by kernel_rfl) hL (show _ ∈ _ from .head _)
  · refine tab_of gP tP Tryz.underlying368 Tryz.underlying275 (by kernel_rfl) (by kernel_rfl) hL ?_
    rw [← pwEq]
    exact .tail _ (.tail _ (.head _))
end Go.Proofs.YtdbhonkahlcdoaaGreatDoor
