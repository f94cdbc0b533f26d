/-
  What the narrower cards stand on: a bulk of at most 1048576 bounds a record's name; the reference's tables.
-/
import Derived.Test.YtikodgaomhmbmaaDoorFT
import Derived.Test.YtikodgaomhmbmaaDoorG2
set_option linter.unusedVariables false
set_option linter.unusedSimpArgs false
namespace Go.Proofs.YtikodgaomhmbmaaDoor
open Go.RowKit

theorem bulk_mem {H : Type} : ∀ {ds : List (DataW H)} {d : DataW H}, d ∈ ds → Rows.uptoBulk d ≤ Rows.uptoBulkAll ds
  | [], _, h => by cases h
  | x :: l, d, h => by
    simp only [Rows.uptoBulkAll]
    rcases List.mem_cons.1 h with rfl | h
    · omega
    · have := bulk_mem h
      omega
theorem small_name {H : Type} {ds : List (DataW H)} {d : DataW H} {dd : DataW H} {r : Rec} (h : Rows.uptoSmall H ds = true) (hm : d ∈ ds) (he : d = recd r dd) : r.Name.size ≤ 1099511627776 := by
  have h1 : Rows.uptoBulkAll ds ≤ 1048576 := by simpa [Rows.uptoSmall] using h
  have h2 := bulk_mem hm
  subst he
  have h3 : r.Name.data.toList.length ≤ Rows.uptoBulk (recd r dd) := by
    simp only [recd, Rows.uptoBulk, Rows.uptoBulkAll]
    omega
  have e : r.Name.size = r.Name.data.toList.length := rfl
  omega
theorem small_bulk {H : Type} {ds : List (DataW H)} {d : DataW H} (h : Rows.uptoSmall H ds = true) (hm : d ∈ ds) : Rows.uptoBulk d ≤ 1048576 := by
  have h1 : Rows.uptoBulkAll ds ≤ 1048576 := by simpa [Rows.uptoSmall] using h
  have h2 := bulk_mem hm
  omega
theorem rtabs_of {w : World} (h5 : Go.Lib.VarReads Tryd.prog w "annals/annalsref3.rows" Rows.laid_annals_annalsref3_rows) (h6 : Go.Lib.VarReads Tryd.prog w "annals/annalsref2.letters" Rows.laid_annals_annalsref2_letters) : RTabs w := ⟨rows_tab h5, ref_letters_tab h6⟩
end Go.Proofs.YtikodgaomhmbmaaDoor
