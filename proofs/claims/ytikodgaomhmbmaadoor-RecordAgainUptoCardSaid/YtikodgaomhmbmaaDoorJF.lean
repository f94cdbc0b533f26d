/-
  Three facts of the program as a whole that each row's closed facts ask, read from the program's first words alone.
-/
import Derived.Test.YtikodgaomhmbmaaDoorCards
import Derived.JoinedOf
import Derived.KernelRfl
set_option linter.unusedVariables false
set_option linter.unusedSimpArgs false
namespace Go.Proofs.YtikodgaomhmbmaaDoor

theorem toList_of {s : String} {l : List Char} (h : s = String.ofList l) : s.toList = l := by rw [h, String.toList_ofList]
theorem words_split (b : List Char) : ∀ a : List Char, (a.all fun c => c != Char.ofNat 32) = true → wordsSigns (a ++ Char.ofNat 32 :: b) = a :: wordsSigns b
  | [], _ => rfl
  | c :: a, h => by
    simp only [List.all_cons, Bool.and_eq_true, bne_iff_ne, ne_eq] at h
    have ih := words_split b a h.2
    rw [List.cons_append, wordsSigns]
    · rw [ih]
    · exact h.1
theorem behind_main {l : List Char} (a s c b : List Char) (hl : l = a ++ Char.ofNat 32 :: (s ++ Char.ofNat 32 :: (c ++ Char.ofNat 32 :: b)))
    (ha : ((a.all fun c => c != Char.ofNat 32) && (s.all fun c => c != Char.ofNat 32) && (c.all fun c => c != Char.ofNat 32)) = true)
    (hm : ((a == "harness".toList || a == "ownmain".toList) && isSumSigns s) = true) : behindMainWord (wordsSigns l) = c :: wordsSigns b := by
  simp only [Bool.and_eq_true] at ha
  subst hl
  rw [words_split _ _ ha.1.1, words_split _ _ ha.1.2, words_split _ _ ha.2]
  unfold behindMainWord
  simp only [hm, if_true]
theorem behind_main' {l : List Char} (hl : (l == List.take 7 l ++ Char.ofNat 32 :: (List.take 64 (List.drop 8 l) ++ Char.ofNat 32 :: ("cut".toList ++ Char.ofNat 32 :: List.drop 77 l))) = true)
    (ha : (((List.take 7 l).all fun c => c != Char.ofNat 32) && ((List.take 64 (List.drop 8 l)).all fun c => c != Char.ofNat 32) && ("cut".toList.all fun c => c != Char.ofNat 32)) = true)
    (hm : ((List.take 7 l == "harness".toList || List.take 7 l == "ownmain".toList) && isSumSigns (List.take 64 (List.drop 8 l))) = true) : behindMainWord (wordsSigns l) = "cut".toList :: wordsSigns (List.drop 77 l) :=
  behind_main _ _ _ _ (eq_of_beq hl) ha hm
set_option maxRecDepth 100000 in
/-- Behind the word of the tests' own main stands the word of a cut. -/
theorem is_cut : ∃ rest, behindMainWord (wordsSigns Tryd.prog.initOrder.toList) = "cut".toList :: rest := by
  have hT := toList_of (s := Tryd.prog.initOrder) (l := _) rfl
  rw [hT]
  exact ⟨_, behind_main' (by kernel_rfl) (by kernel_rfl) (by kernel_rfl)⟩
theorem main_is_of {P : Program} {l m : List Char} {t : String} (hT : P.initOrder.toList = l)
    (hl : (l == List.take 7 l ++ Char.ofNat 32 :: (List.take 64 (List.drop 8 l) ++ Char.ofNat 32 :: List.drop 73 l)) = true)
    (ha : (((List.take 7 l).all fun c => c != Char.ofNat 32) && ((List.take 64 (List.drop 8 l)).all fun c => c != Char.ofNat 32)) = true)
    (hm : (List.take 7 l == "harness".toList && isSumSigns (List.take 64 (List.drop 8 l))) = true) (ht : t.toList = m) (he : (List.take 64 (List.drop 8 l) == m) = true) : P.mainIs = some (true, t.toList) := by
  simp only [Bool.and_eq_true] at ha hm
  have e := eq_of_beq hl
  unfold Program.mainIs
  rw [hT]
  have hw : wordsSigns l = List.take 7 l :: List.take 64 (List.drop 8 l) :: wordsSigns (List.drop 73 l) := by
    conv => lhs; rw [e]
    rw [words_split _ _ ha.1, words_split _ _ ha.2]
  rw [hw]
  simp only [hm.2, hm.1, Bool.not_true, Bool.false_eq_true, if_false, if_true]
  rw [eq_of_beq he, ht]
set_option maxRecDepth 100000 in
theorem main_is : Tryd.prog.mainIs = some ((Rows.recordOwnCard.stood.harness).1, (Rows.recordOwnCard.stood.harness).2.toList) := by
  have hT := toList_of (s := Tryd.prog.initOrder) (l := _) rfl
  have hS := toList_of (s := (Rows.recordOwnCard.stood.harness).2) (l := _) rfl
  exact main_is_of hT (by kernel_rfl) (by kernel_rfl) (by kernel_rfl) hS (by kernel_rfl)
theorem not_gc : ("cut".toList == "gc".toList || "cut".toList == "spec".toList) = false := by kernel_rfl
theorem eq_cut : ("cut".toList == "cut".toList) = true := by kernel_rfl
theorem not_carried : ("cut".toList == "carried".toList) = false := by kernel_rfl
theorem strip_cut (rest : List (List Char)) : stripLifts liftWords ("cut".toList :: rest) = ([], "cut".toList :: rest) := by kernel_rfl
theorem make_cut_of {P : Program} {rest : List (List Char)} (h : behindMainWord (wordsSigns P.initOrder.toList) = "cut".toList :: rest) : P.make = some .cut := by
  unfold Program.make
  rw [h]
  simp only [not_gc, eq_cut, Bool.true_or, if_true, Bool.false_eq_true, if_false]
theorem lifts_final_of {P : Program} {rest : List (List Char)} (h : behindMainWord (wordsSigns P.initOrder.toList) = "cut".toList :: rest) : P.liftsFinal = false := by
  unfold Program.liftsFinal Program.headLifts
  rw [h]
  simp only [strip_cut]
  rw [show ((if ("cut".toList :: rest).head? == some "cut".toList then ([] : List String) else []) = []) by split <;> rfl]
  have e : ((("cut".toList :: rest).head? == some "carried".toList)) = false := by kernel_rfl
  simp only [e, Bool.false_and, Bool.false_or]
  rfl
theorem may_enter_of {P : Program} {rest : List (List Char)} (h : behindMainWord (wordsSigns P.initOrder.toList) = "cut".toList :: rest) (h1 : P.laysLater = false) (h2 : P.bearsReflect = false) (h3 : P.doorFits [] = true) : P.mayEnter = true := by
  have e : ((("cut".toList :: rest).head? == some "cut".toList)) = true := by kernel_rfl
  have e1 : ([] : List String).contains "leanrows" = false := by kernel_rfl
  have e2 : ([] : List String).contains "finals" = false := by kernel_rfl
  have e3 : ([] : List String).contains "reflectrows" = false := by kernel_rfl
  unfold Program.mayEnter
  rw [h]
  simp only [not_gc, not_carried, strip_cut, h1, h2, h3, e, e1, e2, e3, Bool.false_and, Bool.false_or, Bool.not_false, Bool.or_true, Bool.and_true, Bool.true_and]
theorem f_lays : Tryd.prog.laysLater = false := by kernel_rfl
theorem f_bears : Tryd.prog.bearsReflect = false := by kernel_rfl
theorem f_door : Tryd.prog.doorFits [] = true := by kernel_rfl
theorem f_enter : Tryd.prog.mayEnter = true := is_cut.elim fun _ h => may_enter_of h f_lays f_bears f_door
theorem f_lifts : Tryd.prog.liftsFinal = false := is_cut.elim fun _ h => lifts_final_of h
theorem f_make : Tryd.prog.make = some .cut := is_cut.elim fun _ h => make_cut_of h
end Go.Proofs.YtikodgaomhmbmaaDoor
