/-
  Runes of a name: the walks of text.inName and annalsref2.nameRune.
-/
import Derived.Test.YtikodgaomhmbmaaDoorN1
set_option linter.unusedVariables false
set_option linter.unusedSimpArgs false
namespace Go.Proofs.YtikodgaomhmbmaaDoor
open Go.RowKit

set_option maxHeartbeats 4000000 in
set_option maxRecDepth 100000 in
theorem inName_calls (r : Int) (w : World) (ht : Tab w 3 (letCells .i32)) : Calls Tryd.prog 106 #[.int .i32 r] w fun e w' => e = .returned (.bool (nameRune r)) ∧ Below w.heap.size w w' := by
  have HB := Below.refl w.heap.size w
  have Ht := Lib.hid ht
  clear ht
  have key : ∀ (d1 d2 e1 e2 e3 : Bool), decide (48 ≤ r) = d1 → decide (r ≤ 57) = d2 → (r == 45) = e1 → (r == 95) = e2 → (r == 46) = e3 → Calls Tryd.prog 106 #[.int .i32 r] w fun e w' => e = .returned (.bool (nameRune r)) ∧ Below w.heap.size w w' := by
    intro d1 d2 e1 e2 e3 h1 h2 h3 h4 h5
    have hr : nameRune r = (isLetter r || (d1 && d2) || e1 || e2 || e3) := by simp only [nameRune, inRange, h1, h2, h3, h4, h5]
    rw [hr]
    clear hr
    cases d1 <;> cases d2 <;> cases e1 <;> cases e2 <;> cases e3
    all_goals
      go_enter Tryd.func106, Tryd.ntmps106
      go_wp2_with (first
        | (go_at_call 107; (with_reducible refine (letter_calls r _ (Ht.out.next HB)).mono ?_); rintro e W1 ⟨rfl, hb⟩; have hgr := grown_of_below hb; replace HB := HB.grown hgr (by have := HB.size; omega) (by simp); clear hb hgr))
      go_ret
      exact ⟨ret_bool (by simp), HB⟩
  exact key _ _ _ _ _ rfl rfl rfl rfl rfl

set_option maxHeartbeats 4000000 in
set_option maxRecDepth 100000 in
theorem refNameRune_calls (r : Int) (w : World) (ht : Tab w 4 (letCells .i64)) : Calls Tryd.prog 110 #[.int .i64 r] w fun e w' => e = .returned (.bool (nameRune r)) ∧ Below w.heap.size w w' := by
  have HB := Below.refl w.heap.size w
  have Ht := Lib.hid ht
  clear ht
  have key : ∀ (l d e1 e2 e3 : Bool), isLetter r = l → inRange r (48, 57) = d → (r == 45) = e1 → (r == 95) = e2 → (r == 46) = e3 → Calls Tryd.prog 110 #[.int .i64 r] w fun e w' => e = .returned (.bool (nameRune r)) ∧ Below w.heap.size w w' := by
    intro l d e1 e2 e3 h1 h2 h3 h4 h5
    have hr : nameRune r = (l || d || e1 || e2 || e3) := by simp only [nameRune, h1, h2, h3, h4, h5]
    rw [hr]
    clear hr
    have cl := refLetter_calls r
    have cw := within_calls r 48 57
    rw [h1] at cl
    rw [h2] at cw
    have Cl := Lib.hid cl
    have Cw := Lib.hid cw
    clear cl cw h1 h2
    cases l <;> cases d <;> cases e1 <;> cases e2 <;> cases e3
    all_goals
      go_enter Tryd.func110, Tryd.ntmps110
      go_wp2_with (first
        | (go_at_call 109; (with_reducible refine (Cl.out _ (Ht.out.next HB)).mono ?_); rintro e W1 ⟨rfl, hb⟩; have hgr := grown_of_below hb; replace HB := HB.grown hgr (by have := HB.size; omega) (by simp); clear hb hgr)
        | (go_at_call 114; (with_reducible refine (Cw.out _).mono ?_); rintro e W2 ⟨rfl, hb⟩; have hgr := grown_of_below hb; replace HB := HB.grown hgr (by have := HB.size; omega) (by simp); clear hb hgr))
      go_ret
      exact ⟨rfl, HB⟩
  exact key _ _ _ _ _ rfl rfl rfl rfl rfl
end Go.Proofs.YtikodgaomhmbmaaDoor
