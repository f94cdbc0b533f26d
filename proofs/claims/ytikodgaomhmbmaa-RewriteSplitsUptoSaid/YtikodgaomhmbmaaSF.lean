/-
  annalslaw12.RewriteSplits, where what it reads is of bulk at most 1048576: the call returns true; the argument reads behind it as it did.
-/
import Derived.Test.YtikodgaomhmbmaaSB
import Derived.Test.YtikodgaomhmbmaaS12
import Derived.Deep.CondSized
set_option linter.unusedVariables false
set_option linter.unusedSimpArgs false
namespace Go.Proofs.Ytikodgaomhmbmaa.splits
open Go.ChangeShapes Go.WideShapes Go.ChangeAt Go.RowKit Go.Deep

theorem contract (H : Type) (enc : TypeId × Value → H) (W : World) (base : Nat) (args : Array Value) (ds gs : List (DataW H)) (before : List MemPlace)
    (hval : ∀ (j : Nat) t v, Try.f3.params[j]? = some t → args[j]? = some v → Value.okWide Try.prog W .any base t v)
    (hW : DataW.Whole enc Try.prog Try.f3.params.toList Rows.rewriteSplitsSpec.vars false W args.toList ds gs before) (hk : Rows.uptoSmall H (ds ++ gs) = true) :
    Calls Try.prog 3 args W fun e W' => ∃ v, e = .returned v ∧ Rows.rewriteSplitsSpec.post enc Try.prog Try.f3 false true false false W args v W' := by
  have hW' := hW
  obtain ⟨p, q, hA0, hV, rfl, hfz, hnd⟩ := hW
  have hA : DataW.TrodAll enc Try.prog W 0 (fun _ => true) true Try.f3.params.toList args.toList ds p := hA0
  have hlow := hA
  rw [Try.params3] at hA hval
  obtain ⟨v0, vs0, d0, ds0, p0, q0, hargs, rfl, rfl, h0, r0⟩ := trodAll_cons hA
  obtain ⟨rfl, rfl, rfl⟩ := trodAll_nil r0
  obtain rfl : args = #[v0] := by cases args; simp_all
  obtain ⟨rfl, rfl⟩ := trodVars_none hV
  obtain ⟨f0, hf0⟩ := h0
  obtain ⟨A, l, c, e0, hr, _, hb, hin⟩ := trod_recs_bulk hf0
  have hz := hb 1048576 (small_bulk hk (List.mem_append_left _ (by simp)))
  obtain ⟨a0, len0, cap0, rfl⟩ := okWide_slice Try.underlying22 (hval 0 _ v0 rfl rfl)
  obtain ⟨rfl, rfl, rfl⟩ : a0 = A ∧ len0 = l.length ∧ cap0 = c := by simpa [Value.cells] using e0
  refine (splits_calls l a0 cap0 hz.1 hz.2 (fun y hy => (hin y hy).saga) W hr).mono fun e W' ⟨he, hg⟩ => ?_
  subst he
  refine ⟨_, rfl, post_of_below (pa := p0 ++ []) (pv := []) hW' (fun _ _ _ => trodAll_cons_mk (shut_bool Try.underlying4 _) trodAll_mk0) (fun sp hsp => ?_) (fun _ _ => rfl) (by simp) hg (ok_one (by kernel_rfl) rfl (okWide_bool_mk Try.underlying4 _))⟩
  exact args_stay fr_laidOut hg (by kernel_rfl) hlow (fun p hp => hW'.lt p (by simpa using hp)) (fun p hp => hsp p (by simpa using hp))

set_option maxRecDepth 100000 in
theorem lifted (os : Os) (started : os.Started) (H : Type) (enc : TypeId × Value → H) (F : Stop.Interp) :
    ReturnsInHanded {} Try.checked os 3 .any ((Rows.OpenSpec.upto Rows.rewriteSplitsSpec).pre6 enc Try.prog Try.f3 Rows.rewriteSplitsUptoRow.domain false) (((Rows.OpenSpec.upto Rows.rewriteSplitsSpec).at F).post enc Try.prog Try.f3 false true false false) := by
  refine returnsInHanded_of_cond_sized (C := Try.checked) (s := Rows.OpenSpec.upto Rows.rewriteSplitsSpec) (k := Rows.uptoSmall) rfl fr_own started (by kernel_rfl) Try.func3
    (OpenSpec.witness (enc := enc) (C := Try.checked) (s := Rows.OpenSpec.upto Rows.rewriteSplitsSpec) (k := Rows.uptoSmall) rfl false ⟨#[], #[.slice none 0 0], []⟩ 8 (by kernel_rfl) (by kernel_rfl) (by kernel_rfl)
      (x := ([.nil], [], [])) (by kernel_rfl) rfl (by kernel_rfl)) ?_
  intro W base args ds gs before hval hW _ hk _ _
  exact contract H enc W base args ds gs before hval hW hk

theorem splits_holds : Rows.RewriteSplitsUptoSaid :=
  OpenClaim.holds_of_cond 3 Try.f3 rfl rfl rfl rfl rfl rfl rfl ⟨rfl, rfl, rfl, rfl, rfl⟩ rfl rfl rfl rfl rfl (by kernel_rfl) Try.func3 (by kernel_rfl)
    (of_decide_eq_true (by kernel_rfl)) (by unfold Func.isWrapper; first | (rw [if_pos (by decide +kernel)]; kernel_rfl) | (rw [if_neg (by decide +kernel)]; exact ⟨rfl, rfl⟩))
    (fun os started H enc _ F => lifted os started H enc F)
end Go.Proofs.Ytikodgaomhmbmaa.splits
namespace Go.Proofs.Ytikodgaomhmbmaa
/-- RewriteSplits, whatever the records, where they are of bulk at most 1048576. -/
theorem rewriteSplitsUpto_holds : Rows.RewriteSplitsUptoSaid := splits.splits_holds
#print axioms rewriteSplitsUpto_holds
end Go.Proofs.Ytikodgaomhmbmaa
