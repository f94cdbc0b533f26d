/-
  annals/annalslaw3.RecordOwn: what is handed out is its own, what is handed in stays as it was, in the narrower form
-/
import Derived.Test.YtikodgaomhmbmaaDoorFT
import Derived.Test.YtikodgaomhmbmaaDoorMJ
import Derived.Test.YtikodgaomhmbmaaDoorJF
import Derived.Test.YtikodgaomhmbmaaDoorFU
import Derived.Test.YtikodgaomhmbmaaDoorM2
set_option linter.unusedVariables false
set_option linter.unusedSimpArgs false
namespace Go.Proofs.YtikodgaomhmbmaaDoor.recordOwn
open Go.ChangeShapes Go.WideShapes Go.ChangeAt Go.RowKit

set_option maxHeartbeats 1000000 in
set_option maxRecDepth 100000 in
theorem contract (H : Type) (enc : TypeId × Value → H) (W : World) (base : Nat) (args : Array Value) (ds gs : List (DataW H)) (before : List MemPlace)
    (hval : ∀ (j : Nat) t v, Tryd.f3.params[j]? = some t → args[j]? = some v → Value.okWide Tryd.prog W .any base t v)
    (hW : DataW.Whole enc Tryd.prog Tryd.f3.params.toList Rows.recordOwnSpec.vars false W args.toList ds gs before)
    (hsz : (DataW.weightsEach Tryd.prog (Tryd.f3.params.toList ++ Rows.recordOwnSpec.plain.varTypes Tryd.prog) (ds ++ gs)).all (· ≤ reachBytes) = true)
    (hk : Rows.uptoSmall H (ds ++ gs) = true)
    (hL : laidMetH Tryd.prog Rows.recordOwnUptoRow.laid W) :
    Calls Tryd.prog 3 args W fun e W' => ∃ v, e = .returned v ∧ Rows.recordOwnSpec.post enc Tryd.prog Tryd.f3 false true false false W args v W' := by
  have hW' := hW
  obtain ⟨p, q, hA0, hV, rfl, hfz, hnd⟩ := hW
  have hA : DataW.TrodAll enc Tryd.prog W 0 (fun _ => true) true Tryd.f3.params.toList args.toList ds p := hA0
  have hlow := hA
  rw [Tryd.params3] at hA hval hsz
  obtain ⟨v0, vs0, d0, ds0, p0, q0, hargs, rfl, rfl, h0, r0⟩ := trodAll_cons hA
  obtain ⟨rfl, rfl, rfl⟩ := trodAll_nil r0
  obtain rfl : args = #[v0] := by cases args; simp_all
  obtain ⟨rfl, rfl⟩ := trodVars_none hV
  obtain ⟨f0, hf0⟩ := h0
  obtain ⟨A0, l0, c0, e0, hr0, _, hb0⟩ := trod_recs_bulk hf0
  obtain ⟨a0, len0, cap0, rfl⟩ := okWide_slice Tryd.underlying22 (hval 0 _ v0 rfl rfl)
  obtain ⟨rfl, rfl, rfl⟩ : a0 = A0 ∧ len0 = l0.length ∧ cap0 = c0 := by simpa [Value.cells] using e0
  have hz0 := hb0 1048576 (small_bulk hk (List.mem_append_left _ (by simp)))
  have y0 : Lib.VarReads Tryd.prog W "unicode/utf8.acceptRanges" Rows.laid_unicode_utf8_acceptRanges := laid_reads_at (l := Rows.recordOwnUptoRow.laid) (by kernel_rfl) hL 0 (by kernel_rfl)
  have y1 : Lib.VarReads Tryd.prog W "annals/text.letters" Rows.laid_annals_text_letters := laid_reads_at (l := Rows.recordOwnUptoRow.laid) (by kernel_rfl) hL 1 (by kernel_rfl)
  have y2 : Lib.VarReads Tryd.prog W "annals/record.may" Rows.laid_annals_record_may := laid_reads_at (l := Rows.recordOwnUptoRow.laid) (by kernel_rfl) hL 2 (by kernel_rfl)
  have y4 : Lib.VarReads Tryd.prog W "unicode/utf8.first" Rows.laid_unicode_utf8_first := laid_reads_at (l := Rows.recordOwnUptoRow.laid) (by kernel_rfl) hL 3 (by kernel_rfl)
  refine (recordOwn_calls l0 a0 cap0 hz0.1 hz0.2 W (tabs_of y4 y0 y1 y2) hr0).mono fun e W' ⟨he, hg⟩ => ?_
  subst he
  refine ⟨_, rfl, post_of_below (pa := p0 ++ []) (pv := []) hW' (fun _ _ _ => trodAll_cons_mk (shut_bool Tryd.underlying4 _) trodAll_mk0) (fun sp hsp => ?_) (fun _ _ => rfl) (by simp) hg (ok_one (by kernel_rfl) rfl (okWide_bool_mk Tryd.underlying4 _))⟩
  exact args_stay fr_laidOut hg (by kernel_rfl) hlow (fun p hp => hW'.lt p (by simpa using hp)) (fun p hp => hsp p (by simpa using hp))

theorem laid_met (os : Os) : laidMet Tryd.prog Rows.recordOwnUptoRow.laid ((laidWorld os).forCall (fun _ _ => 0) ⟨#[], #[.slice none 0 0], []⟩).memory :=
  laidMet_of_run' 8 (by kernel_rfl) (by kernel_rfl)
theorem reads (os : Os) {H : Type} (enc : TypeId × Value → H) : ∃ places, DataW.whole enc Tryd.prog ((laidWorld os).forCall (fun _ _ => 0) ⟨#[], #[.slice none 0 0], []⟩).memory Tryd.f3.params.toList Rows.recordOwnSpec.vars false (#[.slice none 0 0] : Array Value).toList 8 = some ([.nil], [], places) :=
  ⟨[], by kernel_rfl⟩

set_option maxRecDepth 100000 in
theorem lifted (os : Os) (started : os.Started) (H : Type) (enc : TypeId × Value → H) (F : Stop.Interp) :
    ReturnsInHanded {} Tryd.checked os 3 .any ((Rows.OpenSpec.upto Rows.recordOwnSpec).preRow enc Tryd.prog Tryd.f3 Rows.recordOwnUptoRow.domain false Rows.recordOwnUptoRow.laid) (((Rows.OpenSpec.upto Rows.recordOwnSpec).at F).post enc Tryd.prog Tryd.f3 false true false false) := by
  obtain ⟨places, hx⟩ := reads os enc
  refine returnsInHanded_of_row (C := Tryd.checked) (s := Rows.OpenSpec.upto Rows.recordOwnSpec) fr_own started (by kernel_rfl) Tryd.func3
    (witness_row_at (enc := enc) (C := Tryd.checked) false (laidWorld os) #[.slice none 0 0] rfl (by kernel_rfl) (by kernel_rfl) (by kernel_rfl)
      (OpenSpec.preRow_of_cond 8 hx (by kernel_rfl) (fun k hk => by cases hk; kernel_rfl) (by kernel_rfl) (laid_met os))) ?_
  intro W base args ds gs before hval hW _ hcond hsz hL _ _
  exact contract H enc W base args ds gs before hval hW hsz (hcond _ rfl) hL

theorem closed : joinedFacts Tryd.prog 3 Tryd.f3 (Rows.OpenSpec.upto Rows.recordOwnSpec).bare Rows.recordOwnUptoRow = true := by
  unfold joinedFacts
  rw [f_enter, f_lifts, f_make]
  refine Eq.trans (b := _) ?_ rfl
  kernel_rfl
theorem said : Rows.RecordOwnUptoSaid :=
  OpenClaim.holds_of_cond 3 Tryd.f3 rfl rfl rfl rfl rfl rfl rfl ⟨rfl, rfl, rfl, rfl, rfl⟩ rfl rfl rfl rfl rfl (by kernel_rfl) Tryd.func3 closed
    (of_decide_eq_true (by kernel_rfl)) (by unfold Func.isWrapper; first | (rw [if_pos (by decide +kernel)]; kernel_rfl) | (rw [if_neg (by decide +kernel)]; exact ⟨rfl, rfl⟩))
    (fun os started H enc _ F => by rw [OpenClaim.pre_eq_preRow]; exact lifted os started H enc F)

theorem plain (f : FuncId) (fn : Func) (hf : Tryd.pinned.checked.prog.funcNamed "annals/annalslaw3.RecordOwn" = some f) (hfn : Tryd.pinned.checked.prog.funcs[f]? = some fn) :
    false = Tryd.pinned.checked.prog.looks [] ∧ ∀ (j : Nat) t, fn.params[j]? = some t → Tryd.pinned.checked.prog.wantsStandIn t = false := by
  obtain rfl : f = 3 := Option.some.inj ((show Tryd.prog.funcNamed "annals/annalslaw3.RecordOwn" = some 3 by kernel_rfl).symm.trans hf) |>.symm
  obtain rfl : fn = Tryd.f3 := (Option.some.inj (Tryd.func3.symm.trans hfn)).symm
  refine ⟨by kernel_rfl, fun j t ht => ?_⟩
  have hall : (Tryd.f3.params.toList.all fun t => Tryd.prog.wantsStandIn t == false) = true := by kernel_rfl
  have := List.all_eq_true.1 hall t (by simpa using Array.mem_of_getElem? ht)
  exact eq_of_beq this
end Go.Proofs.YtikodgaomhmbmaaDoor.recordOwn
namespace Go.Proofs.YtikodgaomhmbmaaDoor
/-- RecordOwn: the card. -/
theorem recordOwnUpto_card_holds : Rows.RecordOwnUptoCardSaid :=
  Claim7.holds_tied_plain_at .later [] _ _ _ _ recordOwn.said (fun _ h => by cases h) (by kernel_rfl) (fun _ h => by cases h) recordOwnUpto_row_tie rfl ⟨rfl, rfl⟩ main_is rfl recordOwn.plain (by kernel_rfl)
end Go.Proofs.YtikodgaomhmbmaaDoor
