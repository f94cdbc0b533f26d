/-
  What every card of this seat stands on: the tables' readings, and a world that holds them, for the witnesses.
-/
import Derived.Test.YtikodgaomhmbmaaDoorCards
import Derived.Test.YtikodgaomhmbmaaDoorTie
import Derived.Test.YtikodgaomhmbmaaDoorFr
import Derived.Test.YtikodgaomhmbmaaDoorT
import Derived.Deep.DeepHandedRow
import Derived.Lib.LaidTab
import Derived.MakeChecks
set_option linter.unusedVariables false
set_option linter.unusedSimpArgs false
namespace Go.Proofs.YtikodgaomhmbmaaDoor
open Go.ChangeShapes Go.WideShapes Go.ChangeAt Go.RowKit

theorem laid_reads {P : Program} {w : World} {l : List (String × DataW Unit)} (hp : (l.all fun x => x.2.handleName?.isNone) = true) (h : laidMetH P l w) {n : String} {d : DataW Unit} (hm : (n, d) ∈ l) : Lib.VarReads P w n d := by
  rw [MakeChecks.laidMetH_plain P l w hp] at h
  exact Lib.laidMet.reads h hm

theorem laid_reads_at {P : Program} {w : World} {l : List (String × DataW Unit)} (hp : (l.all fun x => x.2.handleName?.isNone) = true) (h : laidMetH P l w) (k : Nat) {n : String} {d : DataW Unit} (hm : l[k]? = some (n, d)) : Lib.VarReads P w n d :=
  laid_reads hp h (List.mem_of_getElem? hm)

noncomputable def putTab (w : World) (g : Nat) (d : DataW Unit) : World :=
  { w with heap := w.heap.modify g fun
      | .cells _ t frozen => .cells (flat d).toArray t frozen
      | o => o }
/-- A world for the witnesses: the settled one, each table's block holding what its initialiser lays. -/
noncomputable def laidWorld (os : Os) : World :=
  putTab (putTab (putTab (putTab (putTab (putTab (putTab (World.holding Tryd.prog os ⟨#[], #[], []⟩) 0 Rows.laid_annals_record_may) 2 Rows.laid_annals_annalsref3_rows)
    1 Rows.laid_annals_lift_ways) 4 Rows.laid_annals_annalsref2_letters) 3 Rows.laid_annals_text_letters) 5 Rows.laid_unicode_utf8_first) 6 Rows.laid_unicode_utf8_acceptRanges
end Go.Proofs.YtikodgaomhmbmaaDoor
