/-
  What the cards of the laws that come to record.Check stand on: all its tables, out of the listed readings.
-/
import Derived.Test.YtikodgaomhmbmaaDoorFD
import Derived.Test.YtikodgaomhmbmaaDoorC0
set_option linter.unusedVariables false
set_option linter.unusedSimpArgs false
namespace Go.Proofs.YtikodgaomhmbmaaDoor
open Go.RowKit

theorem u8extra : Go.Proofs.U8Extra Tryd.prog Tryd.lays260_ren := ⟨by kernel_rfl, by kernel_rfl, by kernel_rfl, by kernel_rfl, by kernel_rfl, by kernel_rfl, by kernel_rfl⟩
theorem first_data : Rows.laid_unicode_utf8_first = Go.Lib.firstData := by kernel_rfl
theorem accept_data : Rows.laid_unicode_utf8_acceptRanges = Go.Lib.acceptData := by kernel_rfl
theorem var_lt {P : Program} {w : World} {n : String} {d : DataW Unit} {g : Nat} (h : Go.Lib.VarReads P w n d) (hg : P.globalNamed n = some g) : g < w.heap.size := by
  obtain ⟨g', t', cs, fuel, p, hg', ht', hvar, hd⟩ := h
  obtain rfl := Option.some.inj (hg.symm.trans hg')
  unfold World.var? at hvar
  rw [hg] at hvar
  rcases Nat.lt_or_ge g w.heap.size with hlt | hge
  · exact hlt
  · simp [Array.getElem?_eq_none hge] at hvar
theorem tabs_of {w : World} (h3 : Go.Lib.VarReads Tryd.prog w "unicode/utf8.first" Rows.laid_unicode_utf8_first) (h4 : Go.Lib.VarReads Tryd.prog w "unicode/utf8.acceptRanges" Rows.laid_unicode_utf8_acceptRanges)
    (hl : Go.Lib.VarReads Tryd.prog w "annals/text.letters" Rows.laid_annals_text_letters) (hm : Go.Lib.VarReads Tryd.prog w "annals/record.may" Rows.laid_annals_record_may) : Tabs w :=
  ⟨may_tab hm, text_letters_tab hl, Go.Proofs.utf8Tabs_of_reads Tryd.lays260 u8extra (first_data ▸ h3) (accept_data ▸ h4), var_lt h3 (by kernel_rfl), var_lt h4 (by kernel_rfl)⟩
end Go.Proofs.YtikodgaomhmbmaaDoor
