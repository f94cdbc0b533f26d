/-
  annalslaw3.RecordFields, for every two numbers: the card.
-/
import Derived.Test.YtjhiohjpkdjkoaaDoorFD
import Derived.Test.YtjhiohjpkdjkoaaDoorF3
import Derived.Test.YtjhiohjpkdjkoaaDoorJF
set_option linter.unusedVariables false
set_option linter.unusedSimpArgs false
namespace Go.Proofs.YtjhiohjpkdjkoaaDoor.recordFields
open Go.ChangeShapes Go.WideShapes Go.ChangeAt Go.RowKit

set_option maxRecDepth 100000 in
theorem contract (H : Type) (enc : TypeId × Value → H) (W : World) (base : Nat) (args : Array Value) (ds gs : List (DataW H)) (before : List MemPlace)
    (hval : ∀ (j : Nat) t v, Tryd.f3.params[j]? = some t → args[j]? = some v → Value.okWide Tryd.prog W .any base t v)
    (hW : DataW.Whole enc Tryd.prog Tryd.f3.params.toList Rows.recordFieldsSpec.vars false W args.toList ds gs before)
    (hL : laidMetH Tryd.prog Rows.recordFieldsRow.laid W) :
    Calls Tryd.prog 3 args W fun e W' => ∃ v, e = .returned v ∧ Rows.recordFieldsSpec.post enc Tryd.prog Tryd.f3 false true false false W args v W' := by
  have hW' := hW
  obtain ⟨p, q, hA0, hV, rfl, hfz, hnd⟩ := hW
  have hA : DataW.TrodAll enc Tryd.prog W 0 (fun _ => true) true Tryd.f3.params.toList args.toList ds p := hA0
  have hlow := hA
  rw [Tryd.params3] at hA hval
  obtain ⟨v0, vs0, d0, ds0, p0, q0, hargs, rfl, rfl, h0, r0⟩ := trodAll_cons hA
  obtain ⟨v1, vs1, d1, ds1, p1, q1, rfl, rfl, rfl, h1, r1⟩ := trodAll_cons r0
  obtain ⟨rfl, rfl, rfl⟩ := trodAll_nil r1
  obtain rfl : args = #[v0, v1] := by cases args; simp_all
  obtain ⟨rfl, rfl⟩ := trodVars_none hV
  obtain ⟨a, rfl, rfl, rfl, _⟩ := open_int Tryd.underlying3 (hval 0 3 v0 rfl rfl) h0
  obtain ⟨b, rfl, rfl, rfl, _⟩ := open_int Tryd.underlying3 (hval 1 3 v1 rfl rfl) h1
  have h0' : Lib.VarReads Tryd.prog W "annals/annalsref3.rows" Rows.laid_annals_annalsref3_rows := laid_reads_at (l := Rows.recordFieldsRow.laid) (by kernel_rfl) hL 0 (by kernel_rfl)
  have h1' : Lib.VarReads Tryd.prog W "annals/record.may" Rows.laid_annals_record_may := laid_reads_at (l := Rows.recordFieldsRow.laid) (by kernel_rfl) hL 1 (by kernel_rfl)
  refine (recordFields_calls a b W (may_tab h1') (rows_tab h0')).mono fun e W' ⟨he, hg⟩ => ?_
  subst he
  refine ⟨_, rfl, post_of_below (pa := [] ++ ([] ++ [])) (pv := []) hW' (fun _ _ _ => trodAll_cons_mk (shut_bool Tryd.underlying4 _) trodAll_mk0) (fun sp hsp => ?_) (fun _ _ => rfl) (by simp) hg (ok_one (by kernel_rfl) rfl (okWide_bool_mk Tryd.underlying4 _))⟩
  exact args_stay fr_laidOut hg (by kernel_rfl) hlow (fun p hp => absurd hp (by simp)) (fun p hp => absurd hp (by simp))

theorem laid_met (os : Os) : laidMet Tryd.prog Rows.recordFieldsRow.laid ((laidWorld os).forCall (fun _ _ => 0) ⟨#[], #[.int .i64 1, .int .i64 1], []⟩).memory :=
  laidMet_of_run' 8 (by kernel_rfl) (by kernel_rfl)
theorem reads (os : Os) {H : Type} (enc : TypeId × Value → H) : ∃ ds places, DataW.whole enc Tryd.prog ((laidWorld os).forCall (fun _ _ => 0) ⟨#[], #[.int .i64 1, .int .i64 1], []⟩).memory Tryd.f3.params.toList Rows.recordFieldsSpec.vars false #[Value.int .i64 1, .int .i64 1].toList 8 = some (ds, [], places) :=
  ⟨[.lit (.int .i64 1), .lit (.int .i64 1)], [], by kernel_rfl⟩

set_option maxRecDepth 100000 in
theorem lifted (os : Os) (started : os.Started) (H : Type) (enc : TypeId × Value → H) (F : Stop.Interp) :
    ReturnsInHanded {} Tryd.checked os 3 .any ((OpenSpec.ofChange Rows.recordFieldsSpec).preRow enc Tryd.prog Tryd.f3 Rows.recordFieldsRow.domain false Rows.recordFieldsRow.laid) (((OpenSpec.ofChange Rows.recordFieldsSpec).at F).post enc Tryd.prog Tryd.f3 false true false false) := by
  obtain ⟨ds, places, hx⟩ := reads os enc
  refine returnsInHanded_of_row (C := Tryd.checked) (s := OpenSpec.ofChange Rows.recordFieldsSpec) fr_own started (by kernel_rfl) Tryd.func3
    (witness_row_at (enc := enc) (C := Tryd.checked) false (laidWorld os) #[.int .i64 1, .int .i64 1] rfl (by kernel_rfl) (by kernel_rfl) (by kernel_rfl)
      (OpenSpec.preRow_of_cond 8 hx (by kernel_rfl) (fun k hk => by cases hk) (by kernel_rfl) (laid_met os))) ?_
  intro W base args ds gs before hval hW _ _ _ hL _ _
  exact contract H enc W base args ds gs before hval hW hL

theorem closed : joinedFacts Tryd.prog 3 Tryd.f3 (OpenSpec.ofChange Rows.recordFieldsSpec).bare Rows.recordFieldsRow = true := by
  unfold joinedFacts
  rw [f_enter, f_lifts, f_make]
  refine Eq.trans (b := _) ?_ rfl
  kernel_rfl
theorem said : Rows.RecordFieldsSaid :=
  OpenClaim.holds_of_cond 3 Tryd.f3 rfl rfl rfl rfl rfl rfl rfl ⟨rfl, rfl, rfl, rfl, rfl⟩ rfl rfl rfl rfl rfl (by kernel_rfl) Tryd.func3 closed
    (of_decide_eq_true (by kernel_rfl)) (by unfold Func.isWrapper; first | (rw [if_pos (by decide +kernel)]; kernel_rfl) | (rw [if_neg (by decide +kernel)]; exact ⟨rfl, rfl⟩))
    (fun os started H enc _ F => by rw [OpenClaim.pre_eq_preRow]; exact lifted os started H enc F)

theorem plain (f : FuncId) (fn : Func) (hf : Tryd.pinned.checked.prog.funcNamed "annals/annalslaw3.RecordFields" = some f) (hfn : Tryd.pinned.checked.prog.funcs[f]? = some fn) :
    false = Tryd.pinned.checked.prog.looks [] ∧ ∀ (j : Nat) t, fn.params[j]? = some t → Tryd.pinned.checked.prog.wantsStandIn t = false := by
  obtain rfl : f = 3 := Option.some.inj ((show Tryd.prog.funcNamed "annals/annalslaw3.RecordFields" = some 3 by kernel_rfl).symm.trans hf) |>.symm
  obtain rfl : fn = Tryd.f3 := (Option.some.inj (Tryd.func3.symm.trans hfn)).symm
  refine ⟨by kernel_rfl, fun j t ht => ?_⟩
  have hall : (Tryd.f3.params.toList.all fun t => Tryd.prog.wantsStandIn t == false) = true := by kernel_rfl
  have := List.all_eq_true.1 hall t (by simpa using Array.mem_of_getElem? ht)
  exact eq_of_beq this
end Go.Proofs.YtjhiohjpkdjkoaaDoor.recordFields
namespace Go.Proofs.YtjhiohjpkdjkoaaDoor
/-- RecordFields, whatever the two numbers: the card. -/
theorem recordFields_card_holds : Rows.RecordFieldsCardSaid :=
  Claim7.holds_tied_plain_at .later [] _ _ _ _ recordFields.said (fun _ h => by cases h) (by kernel_rfl) (fun _ h => by cases h) recordFields_row_tie rfl ⟨rfl, rfl⟩ main_is rfl recordFields.plain (by kernel_rfl)
end Go.Proofs.YtjhiohjpkdjkoaaDoor
