/-
  annals/annalslaw3.RecordAgain: one buffer and one record, changed in place between two calls: each answer is of what they hold now, in the narrower form
-/
import Derived.Test.YtikodgaomhmbmaaDoorFT
import Derived.Test.YtikodgaomhmbmaaDoorA3
import Derived.Test.YtikodgaomhmbmaaDoorJF
import Derived.Test.YtikodgaomhmbmaaDoorFU
set_option linter.unusedVariables false
set_option linter.unusedSimpArgs false
namespace Go.Proofs.YtikodgaomhmbmaaDoor.recordAgain
open Go.ChangeShapes Go.WideShapes Go.ChangeAt Go.RowKit

set_option maxHeartbeats 1000000 in
set_option maxRecDepth 100000 in
theorem contract (H : Type) (enc : TypeId × Value → H) (W : World) (base : Nat) (args : Array Value) (ds gs : List (DataW H)) (before : List MemPlace)
    (hval : ∀ (j : Nat) t v, Tryd.f8.params[j]? = some t → args[j]? = some v → Value.okWide Tryd.prog W .any base t v)
    (hW : DataW.Whole enc Tryd.prog Tryd.f8.params.toList Rows.recordAgainSpec.vars false W args.toList ds gs before)
    (hsz : (DataW.weightsEach Tryd.prog (Tryd.f8.params.toList ++ Rows.recordAgainSpec.plain.varTypes Tryd.prog) (ds ++ gs)).all (· ≤ reachBytes) = true)
    (hk : Rows.uptoSmall H (ds ++ gs) = true)
    (hL : laidMetH Tryd.prog Rows.recordAgainUptoRow.laid W) :
    Calls Tryd.prog 8 args W fun e W' => ∃ v, e = .returned v ∧ Rows.recordAgainSpec.post enc Tryd.prog Tryd.f8 false true false false W args v W' := by
  have hW' := hW
  obtain ⟨p, q, hA0, hV, rfl, hfz, hnd⟩ := hW
  have hA : DataW.TrodAll enc Tryd.prog W 0 (fun _ => true) true Tryd.f8.params.toList args.toList ds p := hA0
  have hlow := hA
  rw [Tryd.params8] at hA hval hsz
  obtain ⟨v0, vs0, d0, ds0, p0, q0, hargs, rfl, rfl, h0, r0⟩ := trodAll_cons hA
  obtain ⟨v1, vs1, d1, ds1, p1, q1, rfl, rfl, rfl, h1, r1⟩ := trodAll_cons r0
  obtain ⟨v2, vs2, d2, ds2, p2, q2, rfl, rfl, rfl, h2, r2⟩ := trodAll_cons r1
  obtain ⟨v3, vs3, d3, ds3, p3, q3, rfl, rfl, rfl, h3, r3⟩ := trodAll_cons r2
  obtain ⟨rfl, rfl, rfl⟩ := trodAll_nil r3
  obtain rfl : args = #[v0, v1, v2, v3] := by cases args; simp_all
  obtain ⟨rfl, rfl⟩ := trodVars_none hV
  obtain ⟨n0, rfl, rfl, rfl, _⟩ := open_int Tryd.underlying3 (hval 0 3 v0 rfl rfl) h0
  obtain ⟨f1, hf1⟩ := h1
  obtain ⟨A1, l1, c1, e1, hr1, hc1, hb1⟩ := trod_bytes hf1
  obtain ⟨a1, len1, cap1, rfl⟩ := okWide_slice Tryd.underlying25 (hval 1 _ v1 rfl rfl)
  obtain ⟨rfl, rfl, rfl⟩ : a1 = A1 ∧ len1 = l1.length ∧ cap1 = c1 := by simpa [Value.cells] using e1
  obtain ⟨cs2, rfl, _⟩ := okWide_struct Tryd.underlying27 (hval 2 _ v2 rfl rfl)
  obtain ⟨f2, hf2⟩ := h2
  obtain ⟨x2, A2, c2, dd2, e2, hr2, hq2, hi2, hx2, hd2⟩ := trod_rec hf2
  obtain rfl : cs2 = x2.cells A2 c2 := by have := congrArg List.toArray e2; simpa [Value.cells] using this
  have hfit2 := rec_fits hd2 (by rw [← hx2]; exact each_le hsz (j := 2) rfl rfl)
  have hz2 : x2.Name.size ≤ 1099511627776 := small_name hk (List.mem_append_left _ (by simp)) hx2
  obtain ⟨f3, hf3⟩ := h3
  obtain ⟨A3, l3, c3, e3, hr3, hc3⟩ := trod_pairs hf3
  obtain ⟨a3, len3, cap3, rfl⟩ := okWide_slice Tryd.underlying68 (hval 3 _ v3 rfl rfl)
  obtain ⟨rfl, rfl, rfl⟩ : a3 = A3 ∧ len3 = l3.length ∧ cap3 = c3 := by simpa [Value.cells] using e3
  have y0 : Lib.VarReads Tryd.prog W "unicode/utf8.acceptRanges" Rows.laid_unicode_utf8_acceptRanges := laid_reads_at (l := Rows.recordAgainUptoRow.laid) (by kernel_rfl) hL 0 (by kernel_rfl)
  have y6 : Lib.VarReads Tryd.prog W "annals/annalsref2.letters" Rows.laid_annals_annalsref2_letters := laid_reads_at (l := Rows.recordAgainUptoRow.laid) (by kernel_rfl) hL 1 (by kernel_rfl)
  have y5 : Lib.VarReads Tryd.prog W "annals/annalsref3.rows" Rows.laid_annals_annalsref3_rows := laid_reads_at (l := Rows.recordAgainUptoRow.laid) (by kernel_rfl) hL 2 (by kernel_rfl)
  have y1 : Lib.VarReads Tryd.prog W "annals/text.letters" Rows.laid_annals_text_letters := laid_reads_at (l := Rows.recordAgainUptoRow.laid) (by kernel_rfl) hL 3 (by kernel_rfl)
  have y2 : Lib.VarReads Tryd.prog W "annals/record.may" Rows.laid_annals_record_may := laid_reads_at (l := Rows.recordAgainUptoRow.laid) (by kernel_rfl) hL 4 (by kernel_rfl)
  have y4 : Lib.VarReads Tryd.prog W "unicode/utf8.first" Rows.laid_unicode_utf8_first := laid_reads_at (l := Rows.recordAgainUptoRow.laid) (by kernel_rfl) hL 5 (by kernel_rfl)
  refine (recordAgain_calls n0 l1 a1 cap1 hc1 x2 A2 c2 hq2 hfit2 hz2 (ints_code hi2) l3 a3 cap3 hc3 W (tabs_of y4 y0 y1 y2) (rtabs_of y5 y6) hr1 hr2 hr3).mono fun e W' ⟨he, hg⟩ => ?_
  subst he
  refine ⟨_, rfl, post_of_below (pa := [] ++ (p1 ++ (p2 ++ (p3 ++ [])))) (pv := []) hW' (fun _ _ _ => trodAll_cons_mk (shut_bool Tryd.underlying4 _) trodAll_mk0) (fun sp hsp => ?_) (fun _ _ => rfl) (by simp) hg (ok_one (by kernel_rfl) rfl (okWide_bool_mk Tryd.underlying4 _))⟩
  exact args_stay fr_laidOut hg (by kernel_rfl) hlow (fun p hp => hW'.lt p (by simpa using hp)) (fun p hp => hsp p (by simpa using hp))

theorem laid_met (os : Os) : laidMet Tryd.prog Rows.recordAgainUptoRow.laid ((laidWorld os).forCall (fun _ _ => 0) ⟨#[], #[.int .i64 0, .slice none 0 0, .agg (Rec.zero.cells none 0), .slice none 0 0], []⟩).memory :=
  laidMet_of_run' 8 (by kernel_rfl) (by kernel_rfl)
theorem reads (os : Os) {H : Type} (enc : TypeId × Value → H) : ∃ places, DataW.whole enc Tryd.prog ((laidWorld os).forCall (fun _ _ => 0) ⟨#[], #[.int .i64 0, .slice none 0 0, .agg (Rec.zero.cells none 0), .slice none 0 0], []⟩).memory Tryd.f8.params.toList Rows.recordAgainSpec.vars false (#[.int .i64 0, .slice none 0 0, .agg (Rec.zero.cells none 0), .slice none 0 0] : Array Value).toList 8 = some ([.lit (.int .i64 0), .nil, recd Rec.zero .nil, .nil], [], places) :=
  ⟨[], by kernel_rfl⟩

set_option maxRecDepth 100000 in
theorem lifted (os : Os) (started : os.Started) (H : Type) (enc : TypeId × Value → H) (F : Stop.Interp) :
    ReturnsInHanded {} Tryd.checked os 8 .any ((Rows.OpenSpec.upto Rows.recordAgainSpec).preRow enc Tryd.prog Tryd.f8 Rows.recordAgainUptoRow.domain false Rows.recordAgainUptoRow.laid) (((Rows.OpenSpec.upto Rows.recordAgainSpec).at F).post enc Tryd.prog Tryd.f8 false true false false) := by
  obtain ⟨places, hx⟩ := reads os enc
  refine returnsInHanded_of_row (C := Tryd.checked) (s := Rows.OpenSpec.upto Rows.recordAgainSpec) fr_own started (by kernel_rfl) Tryd.func8
    (witness_row_at (enc := enc) (C := Tryd.checked) false (laidWorld os) #[.int .i64 0, .slice none 0 0, .agg (Rec.zero.cells none 0), .slice none 0 0] rfl (by kernel_rfl) (by kernel_rfl) (by kernel_rfl)
      (OpenSpec.preRow_of_cond 8 hx (by kernel_rfl) (fun k hk => by cases hk; kernel_rfl) (by kernel_rfl) (laid_met os))) ?_
  intro W base args ds gs before hval hW _ hcond hsz hL _ _
  exact contract H enc W base args ds gs before hval hW hsz (hcond _ rfl) hL

theorem closed : joinedFacts Tryd.prog 8 Tryd.f8 (Rows.OpenSpec.upto Rows.recordAgainSpec).bare Rows.recordAgainUptoRow = true := by
  unfold joinedFacts
  rw [f_enter, f_lifts, f_make]
  refine Eq.trans (b := _) ?_ rfl
  kernel_rfl
theorem said : Rows.RecordAgainUptoSaid :=
  OpenClaim.holds_of_cond 8 Tryd.f8 rfl rfl rfl rfl rfl rfl rfl ⟨rfl, rfl, rfl, rfl, rfl⟩ rfl rfl rfl rfl rfl (by kernel_rfl) Tryd.func8 closed
    (of_decide_eq_true (by kernel_rfl)) (by unfold Func.isWrapper; first | (rw [if_pos (by decide +kernel)]; kernel_rfl) | (rw [if_neg (by decide +kernel)]; exact ⟨rfl, rfl⟩))
    (fun os started H enc _ F => by rw [OpenClaim.pre_eq_preRow]; exact lifted os started H enc F)

theorem plain (f : FuncId) (fn : Func) (hf : Tryd.pinned.checked.prog.funcNamed "annals/annalslaw3.RecordAgain" = some f) (hfn : Tryd.pinned.checked.prog.funcs[f]? = some fn) :
    false = Tryd.pinned.checked.prog.looks [] ∧ ∀ (j : Nat) t, fn.params[j]? = some t → Tryd.pinned.checked.prog.wantsStandIn t = false := by
  obtain rfl : f = 8 := Option.some.inj ((show Tryd.prog.funcNamed "annals/annalslaw3.RecordAgain" = some 8 by kernel_rfl).symm.trans hf) |>.symm
  obtain rfl : fn = Tryd.f8 := (Option.some.inj (Tryd.func8.symm.trans hfn)).symm
  refine ⟨by kernel_rfl, fun j t ht => ?_⟩
  have hall : (Tryd.f8.params.toList.all fun t => Tryd.prog.wantsStandIn t == false) = true := by kernel_rfl
  have := List.all_eq_true.1 hall t (by simpa using Array.mem_of_getElem? ht)
  exact eq_of_beq this
end Go.Proofs.YtikodgaomhmbmaaDoor.recordAgain
namespace Go.Proofs.YtikodgaomhmbmaaDoor
/-- RecordAgain: the card. -/
theorem recordAgainUpto_card_holds : Rows.RecordAgainUptoCardSaid :=
  Claim7.holds_tied_plain_at .later [] _ _ _ _ recordAgain.said (fun _ h => by cases h) (by kernel_rfl) (fun _ h => by cases h) recordAgainUpto_row_tie rfl ⟨rfl, rfl⟩ main_is rfl recordAgain.plain (by kernel_rfl)
end Go.Proofs.YtikodgaomhmbmaaDoor
