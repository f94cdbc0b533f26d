/-
  A valid record's name is short; annalsref3.Check with its answer named.
-/
import Derived.Test.YtikodgaomhmbmaaDoorG2
import Derived.Test.YtikodgaomhmbmaaDoorCL
set_option linter.unusedVariables false
set_option linter.unusedSimpArgs false
namespace Go.Proofs.YtikodgaomhmbmaaDoor
open Go.RowKit
/-- A valid record's name is short. -/
theorem valid_name {r : Rec} (h : r.chk = 0) : r.Name.size ≤ 1099511627776 := by
  obtain ⟨v, k, hv, hk, h1, h2, _, hval⟩ := (chk_valid r).1 h
  have h10 := hval 10 (by omega) (by omega)
  by_cases hm : may v k 10 = true
  · rw [if_pos hm, b10] at h10
    have := name_size h10
    omega
  · rw [if_neg hm, z10] at h10
    rw [h10]
    decide
theorem ref_check_of (r : Rec) (x : Int) (hx : r.chk = x) (A : Option Addr) (c : Nat) (hz : r.Name.size ≤ 1099511627776) (w : World) (ht : RTabs w) (hd : RB w A r.Data) :
    Calls Tryd.prog 55 #[.agg (r.cells A c)] w fun e w' => e = .returned (.int .i64 x) ∧ Below w.heap.size w w' := by
  subst hx
  exact refCheck_calls r A c hz w ht hd

end Go.Proofs.YtikodgaomhmbmaaDoor
