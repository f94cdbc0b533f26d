/-
  annalslaw12.RewriteLent, for every list of records and every list of turns: the call returns true; the arguments read behind it as they did. No condition.
-/
import Derived.Test.YtikodgaomhmbmaaS15
set_option linter.unusedVariables false
set_option linter.unusedSimpArgs false
namespace Go.Proofs.Ytikodgaomhmbmaa.lent
open Go.ChangeShapes Go.WideShapes Go.ChangeAt Go.RowKit Go.Deep

section
variable {H : Type} {enc : TypeId × Value → H} {w : World} {base : Nat} {spare : Nat → Bool} {held : Bool}
/-- A []api.Record. -/
theorem trod_recs_w {fuel : Nat} {cs : List Value} {x : DataW H × List MemPlace} (h : DataW.trod enc Try.prog w base spare held fuel 22 cs = some x) :
    ∃ (A : Option Addr) (l : List RA) (c : Nat), cs = [.slice A l.length c] ∧ RR w A l ∧ l.length ≤ c ∧ ((∀ n ∈ x.1.weights Try.prog 22, n ≤ reachBytes) → l.length * 120 ≤ 140737488351232 ∧ ∀ y ∈ l, y.1.Fits) ∧ ∀ y ∈ l, y.1.Ints := by
  rcases open_slice Try.underlying22 h with ⟨rfl, rfl⟩ | ⟨a, len, cap, m, n, D, Pl, rfl, hb, hl, hm, hmm, rfl, hx⟩
  · exact ⟨none, [], 0, rfl, RR.nil, by simp, fun _ => ⟨by simp, fun y hy => by cases hy⟩, fun y hy => by cases hy⟩
  · have hlm : len ≤ m := by rw [hmm]; split <;> omega
    have hall : ∀ i, i < len → ∃ y : RA, w.cells? base (a.add (i * 12)) 12 = some y.cs ∧ RB w y.2.1 y.1.Data ∧ ∃ dd, D i = recd y.1 dd ∧ ((dd = .nil ∧ y.1.Data = []) ∨ ∃ sp, dd = .slice (u8d y.1.Data) sp) ∧ y.1.Ints := by
      intro i hi
      obtain ⟨cs', h1, h2⟩ := hx i (by omega)
      rw [cells_rec] at h1
      obtain ⟨r, A, c, dd, rfl, hrb, _, hin, he, hd⟩ := trod_rec h2
      exact ⟨(r, A, c), h1, hrb, dd, he, hd, hin⟩
    haveI : Inhabited RA := ⟨(Rec.zero, none, 0)⟩
    obtain ⟨f, hf⟩ := choose_lt hall
    have hget : ∀ k x, ((List.range len).map f)[k]? = some x → k < len ∧ x = f k := by
      intro k x hk
      have hk' : k < len := by
        have := (List.getElem?_eq_some_iff.1 hk).1
        simpa using this
      rw [List.getElem?_map, List.getElem?_range hk'] at hk
      exact ⟨hk', by simpa using hk.symm⟩
    refine ⟨some a, (List.range len).map f, cap, by simp, ⟨⟨by rw [recCells_length], fun hn => ⟨a, rfl, ?_, ?_⟩⟩, ?_⟩, by simpa using hl, ?_, ?_⟩
    · simp at hn
      obtain ⟨h1, _⟩ := hf 0 hn
      obtain ⟨_, _, h3⟩ := World.cells?_some h1
      have := World.block_lt_of_cell? w _ ((h3 0 (by omega)).trans (by rw [RA.cs_get]; exact Rec.g0 _ _ _))
      rw [block_of_add, block_of_add] at this
      exact this
    · intro j u hu
      have hj : j < len * 12 := by
        have := (List.getElem?_eq_some_iff.1 hu).1
        rw [recCells_length] at this
        simpa using this
      have hk : j / 12 < len := by omega
      have hg : ((List.range len).map f)[j / 12]? = some (f (j / 12)) := by rw [List.getElem?_map, List.getElem?_range hk]; rfl
      have hr := recCells_get hg (j % 12) (by omega)
      rw [show j / 12 * 12 + j % 12 = j by omega, hu] at hr
      obtain ⟨h1, _⟩ := hf _ hk
      obtain ⟨_, _, h3⟩ := World.cells?_some h1
      have := h3 (j % 12) (by omega)
      rw [add_of_add, show j / 12 * 12 + j % 12 = j by omega, RA.cs_get, ← hr] at this
      exact this
    · intro x hx
      obtain ⟨i, hi, rfl⟩ := List.mem_map.1 hx
      exact (hf i (by simpa using hi)).2.1
    · intro hw
      have hbr : Try.prog.bytesOf 25 = 120 := by kernel_rfl
      constructor
      · have := hw ((((List.range len).map D).length + ((List.range (m - len)).map fun j => D (len + j)).length) * 120) (by simp [DataW.weights, Try.underlying22, hbr])
        unfold reachBytes at this
        simp at this ⊢
        omega
      · intro y hy
        obtain ⟨i, hi, rfl⟩ := List.mem_map.1 hy
        have hi' : i < len := by simpa using hi
        obtain ⟨_, _, dd, he, hd, _⟩ := hf i hi'
        refine rec_fits hd fun n hn => hw n ?_
        rw [← he] at hn
        simp only [DataW.weights, Try.underlying22, List.mem_cons, List.mem_append]
        refine .inr (.inl ?_)
        have : ∀ l : List (DataW H), D i ∈ l → n ∈ DataW.weightsAll Try.prog 25 l := by
          intro l
          induction l with
          | nil => intro h; cases h
          | cons d l ih =>
            intro h
            simp only [DataW.weightsAll, List.mem_append]
            rcases List.mem_cons.1 h with rfl | h
            · exact .inl hn
            · exact .inr (ih h)
        exact this _ (List.mem_map.2 ⟨i, by simpa using hi', rfl⟩)
    · intro y hy
      obtain ⟨i, hi, rfl⟩ := List.mem_map.1 hy
      exact (hf i (by simpa using hi)).2.2.choose_spec.2.2
end

theorem contract (H : Type) (enc : TypeId × Value → H) (W : World) (base : Nat) (args : Array Value) (ds gs : List (DataW H)) (before : List MemPlace)
    (hval : ∀ (j : Nat) t v, Try.f4.params[j]? = some t → args[j]? = some v → Value.okWide Try.prog W .any base t v)
    (hW : DataW.Whole enc Try.prog Try.f4.params.toList Rows.rewriteLentSpec.vars false W args.toList ds gs before)
    (hsz : (DataW.weightsEach Try.prog (Try.f4.params.toList ++ Rows.rewriteLentSpec.plain.varTypes Try.prog) (ds ++ gs)).all (· ≤ reachBytes) = true) :
    Calls Try.prog 4 args W fun e W' => ∃ v, e = .returned v ∧ Rows.rewriteLentSpec.post enc Try.prog Try.f4 false true false false W args v W' := by
  have hW' := hW
  obtain ⟨p, q, hA0, hV, rfl, hfz, hnd⟩ := hW
  have hA : DataW.TrodAll enc Try.prog W 0 (fun _ => true) true Try.f4.params.toList args.toList ds p := hA0
  have hlow := hA
  rw [Try.params4] at hA hval hsz
  obtain ⟨v0, vs0, d0, ds0, p0, q0, hargs, rfl, rfl, h0, r0⟩ := trodAll_cons hA
  obtain ⟨v1, vs1, d1, ds1, p1, q1, rfl, rfl, rfl, h1, r1⟩ := trodAll_cons r0
  obtain ⟨rfl, rfl, rfl⟩ := trodAll_nil r1
  obtain rfl : args = #[v0, v1] := by cases args; simp_all
  obtain ⟨rfl, rfl⟩ := trodVars_none hV
  obtain ⟨f0, hf0⟩ := h0
  obtain ⟨f1, hf1⟩ := h1
  obtain ⟨A, l, c, e0, hr, hcap, hb, hin⟩ := trod_recs_w hf0
  obtain ⟨At, ts, ct, e1, hts, _, htw⟩ := trod_trns hf1
  obtain ⟨a0, len0, cap0, rfl⟩ := okWide_slice Try.underlying22 (hval 0 _ v0 rfl rfl)
  obtain ⟨rfl, rfl, rfl⟩ : a0 = A ∧ len0 = l.length ∧ cap0 = c := by simpa [Value.cells] using e0
  obtain ⟨a1, len1, cap1, rfl⟩ := okWide_slice Try.underlying41 (hval 1 _ v1 rfl rfl)
  obtain ⟨rfl, rfl, rfl⟩ : a1 = At ∧ len1 = ts.length ∧ cap1 = ct := by simpa [Value.cells] using e1
  have hz := hb (each_le hsz (j := 0) rfl rfl)
  refine (lent_calls l a0 cap0 hcap hz.2 (fun y hy => (hin y hy).saga) ts a1 cap1 htw W hr hts).mono fun e W' ⟨he, hg⟩ => ?_
  subst he
  refine ⟨_, rfl, post_of_below (pa := p0 ++ (p1 ++ [])) (pv := []) hW' (fun _ _ _ => trodAll_cons_mk (shut_bool Try.underlying4 _) trodAll_mk0) (fun sp hsp => ?_) (fun _ _ => rfl) (by simp) hg (ok_one (by kernel_rfl) rfl (okWide_bool_mk Try.underlying4 _))⟩
  exact args_stay fr_laidOut hg (by kernel_rfl) hlow (fun p hp => hW'.lt p (by simpa using hp)) (fun p hp => hsp p (by simpa using hp))

set_option maxRecDepth 100000 in
theorem lifted (os : Os) (started : os.Started) (H : Type) (enc : TypeId × Value → H) :
    ReturnsInHanded {} Try.checked os 4 .any (Rows.rewriteLentSpec.pre6 enc Try.prog Try.f4 Rows.rewriteLentRow.domain false) (Rows.rewriteLentSpec.post enc Try.prog Try.f4 false true false false) := by
  refine returnsInHanded_of_change_sized (C := Try.checked) fr_own started (by kernel_rfl) Try.func4
    (ChangeSpec.witness6 (enc := enc) (C := Try.checked) false ⟨#[], #[.slice none 0 0, .slice none 0 0], []⟩ 8 (by kernel_rfl) (by kernel_rfl) (by kernel_rfl) (by kernel_rfl)) ?_
  intro W base args ds gs before hval hW _ hsz _
  exact contract H enc W base args ds gs before hval hW hsz

theorem lent_holds : Rows.RewriteLentSaid :=
  OpenClaim.holds_of_wide 4 Try.f4 rfl rfl rfl rfl rfl rfl rfl ⟨rfl, rfl, rfl, rfl, rfl⟩ rfl rfl rfl rfl rfl (by kernel_rfl) Try.func4 (by kernel_rfl)
    (of_decide_eq_true (by kernel_rfl)) (by unfold Func.isWrapper; first | (rw [if_pos (by decide +kernel)]; kernel_rfl) | (rw [if_neg (by decide +kernel)]; exact ⟨rfl, rfl⟩))
    (fun os started H enc _ => lifted os started H enc)
end Go.Proofs.Ytikodgaomhmbmaa.lent
namespace Go.Proofs.Ytikodgaomhmbmaa
/-- RewriteLent, whatever the records and the turns. -/
theorem rewriteLent_holds : Rows.RewriteLentSaid := lent.lent_holds
#print axioms rewriteLent_holds
end Go.Proofs.Ytikodgaomhmbmaa
