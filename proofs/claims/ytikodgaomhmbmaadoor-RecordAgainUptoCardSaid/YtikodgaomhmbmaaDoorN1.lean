/-
  Letters and the runes of a name: the walks of text.from, text.Letter, text.inName and of annalsref2.within, Letter, nameRune.
-/
import Derived.Test.YtikodgaomhmbmaaDoorT
import Derived.Test.YtikodgaomhmbmaaDoorRows
set_option linter.unusedVariables false
set_option linter.unusedSimpArgs false
namespace Go.Proofs.YtikodgaomhmbmaaDoor
open Go.RowKit

/-- The ranges of letters, both tables'. -/
def lets : List (Int × Int) := [(65, 90), (97, 122), (192, 214), (216, 246), (248, 383), (913, 929), (931, 937), (940, 974), (1024, 1119), (1329, 1366), (1488, 1514), (1569, 1594), (1601, 1610), (2308, 2361), (3585, 3632), (4304, 4346), (12353, 12438), (12449, 12538), (19968, 40959), (44032, 55203), (66560, 66639), (131072, 173791)]
def inRange (r : Int) (p : Int × Int) : Bool := decide (p.1 ≤ r) && decide (r ≤ p.2)
def isLetter (r : Int) : Bool := lets.any (inRange r)
def nameRune (r : Int) : Bool := isLetter r || inRange r (48, 57) || r == 45 || r == 95 || r == 46
def letCells (k : IntKind) : List Value := lets.flatMap fun p => [.int k p.1, .int k p.2]
theorem letCells_at (k : IntKind) : ∀ i < 22, (letCells k)[i * 2]? = some (.int k (lets.getD i (0, 0)).1) ∧ (letCells k)[i * 2 + 1]? = some (.int k (lets.getD i (0, 0)).2) := by
  intro i hi
  rcases (by omega : i = 0 ∨ i = 1 ∨ i = 2 ∨ i = 3 ∨ i = 4 ∨ i = 5 ∨ i = 6 ∨ i = 7 ∨ i = 8 ∨ i = 9 ∨ i = 10 ∨ i = 11 ∨ i = 12 ∨ i = 13 ∨ i = 14 ∨ i = 15 ∨ i = 16 ∨ i = 17 ∨ i = 18 ∨ i = 19 ∨ i = 20 ∨ i = 21) with
    e | e | e | e | e | e | e | e | e | e | e | e | e | e | e | e | e | e | e | e | e | e
  all_goals subst e; exact ⟨rfl, rfl⟩
theorem text_letters_tab {w : World} (h : Go.Lib.VarReads Tryd.prog w "annals/text.letters" Rows.laid_annals_text_letters) : Tab w 3 (letCells .i32) :=
  tab_of_reads (t := 155) 4 h (by kernel_rfl) (by kernel_rfl) (by kernel_rfl) _ (by kernel_rfl) (by decide)
theorem ref_letters_tab {w : World} (h : Go.Lib.VarReads Tryd.prog w "annals/annalsref2.letters" Rows.laid_annals_annalsref2_letters) : Tab w 4 (letCells .i64) :=
  tab_of_reads (t := 157) 4 h (by kernel_rfl) (by kernel_rfl) (by kernel_rfl) _ (by kernel_rfl) (by decide)
theorem any_take_succ (r : Int) (k : Nat) (h : k < 22) : (lets.take (k + 1)).any (inRange r) = ((lets.take k).any (inRange r) || inRange r (lets.getD k (0, 0))) := by
  have hl : k < lets.length := h
  rw [List.take_succ_eq_append_getElem hl, List.any_append]
  simp [List.getD, hl]
theorem letter_of_hit {r : Int} {k : Nat} (h : k < 22) (hr : inRange r (lets.getD k (0, 0)) = true) : isLetter r = true := by
  have hl : k < lets.length := h
  have e : lets.getD k (0, 0) = lets[k] := by simp [List.getD, hl]
  rw [e] at hr
  exact List.any_eq_true.2 ⟨_, List.getElem_mem hl, hr⟩

theorem from_calls (r lo hi : Int) (w : World) : Calls Tryd.prog 112 #[.int .i32 r, .int .i32 lo, .int .i32 hi] w fun e w' => e = .returned (.bool (inRange r (lo, hi))) ∧ Below w.heap.size w w' := by
  by_cases h1 : lo ≤ r
  · have t1 : decide (lo ≤ r) = true := by simp [h1]
    by_cases h2 : r ≤ hi
    · have t2 : decide (r ≤ hi) = true := by simp [h2]
      have e : inRange r (lo, hi) = true := by simp [inRange, h1, h2]
      rw [e]
      clear h1 h2 e
      go_enter Tryd.func112, Tryd.ntmps112
      go_wp2
      go_ret
      exact ⟨rfl, Below.refl _ _⟩
    · have t2 : decide (r ≤ hi) = false := by simp; omega
      have e : inRange r (lo, hi) = false := by simp [inRange]; omega
      rw [e]
      clear h1 h2 e
      go_enter Tryd.func112, Tryd.ntmps112
      go_wp2
      go_ret
      exact ⟨rfl, Below.refl _ _⟩
  · have t1 : decide (lo ≤ r) = false := by simp; omega
    have e : inRange r (lo, hi) = false := by simp [inRange]; omega
    rw [e]
    clear h1 e
    go_enter Tryd.func112, Tryd.ntmps112
    go_wp2
    go_ret
    exact ⟨rfl, Below.refl _ _⟩
theorem within_calls (r lo hi : Int) (w : World) : Calls Tryd.prog 114 #[.int .i64 r, .int .i64 lo, .int .i64 hi] w fun e w' => e = .returned (.bool (inRange r (lo, hi))) ∧ Below w.heap.size w w' := by
  by_cases h1 : lo ≤ r
  · have t1 : decide (lo ≤ r) = true := by simp [h1]
    by_cases h2 : r ≤ hi
    · have t2 : decide (r ≤ hi) = true := by simp [h2]
      have e : inRange r (lo, hi) = true := by simp [inRange, h1, h2]
      rw [e]
      clear h1 h2 e
      go_enter Tryd.func114, Tryd.ntmps114
      go_wp2
      go_ret
      exact ⟨rfl, Below.refl _ _⟩
    · have t2 : decide (r ≤ hi) = false := by simp; omega
      have e : inRange r (lo, hi) = false := by simp [inRange]; omega
      rw [e]
      clear h1 h2 e
      go_enter Tryd.func114, Tryd.ntmps114
      go_wp2
      go_ret
      exact ⟨rfl, Below.refl _ _⟩
  · have t1 : decide (lo ≤ r) = false := by simp; omega
    have e : inRange r (lo, hi) = false := by simp [inRange]; omega
    rw [e]
    clear h1 e
    go_enter Tryd.func114, Tryd.ntmps114
    go_wp2
    go_ret
    exact ⟨rfl, Below.refl _ _⟩
set_option maxHeartbeats 1000000 in
set_option maxRecDepth 100000 in
theorem letter_calls (r : Int) (w : World) (ht : Tab w 3 (letCells .i32)) : Calls Tryd.prog 107 #[.int .i32 r] w fun e w' => e = .returned (.bool (isLetter r)) ∧ Below w.heap.size w w' := by
  have HB := Below.refl w.heap.size w
  have Ht := Lib.hid ht
  clear ht
  go_enter Tryd.func107, Tryd.ntmps107
  go_wp2
  go_loopg [4] 22 (fun n v wr => ∃ k : Nat, n + k = 22 ∧ v = .int .i64 k ∧ Aside ((lets.take k).any (inRange r) = false ∧ Below w.heap.size w wr))
  case atStart => exact ⟨0, by omega, rfl, ⟨rfl, HB⟩⟩
  case round =>
    obtain ⟨k, hn, rfl, HA⟩ := hrel
    by_cases hlt : k < 22
    · have hct := Ht.out.next HA.out.2
      obtain ⟨hl1, hl2⟩ := letCells_at .i32 k hlt
      generalize hlo : (lets.getD k (0, 0)).1 = lo at hl1
      generalize hhi : (lets.getD k (0, 0)).2 = hi at hl2
      have hc1 : ∀ u : Later wr, u.1.cell? ⟨3, k * 2, none⟩ = some (.int .i32 lo) := fun u => (hct.next u.2).2 _ _ hl1
      have hc2 : ∀ u : Later wr, u.1.cell? ⟨3, k * 2 + 1, none⟩ = some (.int .i32 hi) := fun u => (hct.next u.2).2 _ _ hl2
      have hp : inRange r (lets.getD k (0, 0)) = inRange r (lo, hi) := by rw [← hlo, ← hhi]
      have Hp := Lib.hid hp
      clear hl1 hl2 hct hlo hhi hp
      go_wp2
      refine wp_region_later (by kernel_rfl) (by kernel_rfl) ?_
      repeat (go_big_quiet_step ((go_at_call 112; exact calls_later (from_calls r lo hi _))))
      refine later_end (fun wq hbq => ?_)
      go_wp2
      · rename_i hx
        go_ret
        exact ⟨ret_bool (letter_of_hit hlt (Hp.out.trans hx)).symm, below_go HA.out.2 hbq⟩
      · rename_i hx
        go_roundg (gk - 1)
        case measure => omega
        case rel => exact ⟨k + 1, by omega, by go_num, ⟨by rw [any_take_succ r k hlt, HA.out.1, Hp.out, hx]; rfl, below_go HA.out.2 hbq⟩⟩
    · obtain rfl : k = 22 := by omega
      go_wp2
      go_ret
      exact ⟨ret_bool HA.out.1.symm, HA.out.2⟩
set_option maxHeartbeats 1000000 in
set_option maxRecDepth 100000 in
theorem refLetter_calls (r : Int) (w : World) (ht : Tab w 4 (letCells .i64)) : Calls Tryd.prog 109 #[.int .i64 r] w fun e w' => e = .returned (.bool (isLetter r)) ∧ Below w.heap.size w w' := by
  have HB := Below.refl w.heap.size w
  have Ht := Lib.hid ht
  clear ht
  go_enter Tryd.func109, Tryd.ntmps109
  go_wp2
  go_loopg [3] 22 (fun n v wr => ∃ k : Nat, n + k = 22 ∧ v = .int .i64 k ∧ Aside ((lets.take k).any (inRange r) = false ∧ Below w.heap.size w wr))
  case atStart => exact ⟨0, by omega, rfl, ⟨rfl, HB⟩⟩
  case round =>
    obtain ⟨k, hn, rfl, HA⟩ := hrel
    by_cases hlt : k < 22
    · have hct := Ht.out.next HA.out.2
      obtain ⟨hl1, hl2⟩ := letCells_at .i64 k hlt
      generalize hlo : (lets.getD k (0, 0)).1 = lo at hl1
      generalize hhi : (lets.getD k (0, 0)).2 = hi at hl2
      have hc1 : ∀ u : Later wr, u.1.cell? ⟨4, k * 2, none⟩ = some (.int .i64 lo) := fun u => (hct.next u.2).2 _ _ hl1
      have hc2 : ∀ u : Later wr, u.1.cell? ⟨4, k * 2 + 1, none⟩ = some (.int .i64 hi) := fun u => (hct.next u.2).2 _ _ hl2
      have hp : inRange r (lets.getD k (0, 0)) = inRange r (lo, hi) := by rw [← hlo, ← hhi]
      have Hp := Lib.hid hp
      clear hl1 hl2 hct hlo hhi hp
      go_wp2
      refine wp_region_later (by kernel_rfl) (by kernel_rfl) ?_
      repeat (go_big_quiet_step ((go_at_call 114; exact calls_later (within_calls r lo hi _))))
      refine later_end (fun wq hbq => ?_)
      go_wp2
      · rename_i hx
        go_ret
        exact ⟨ret_bool (letter_of_hit hlt (Hp.out.trans hx)).symm, below_go HA.out.2 hbq⟩
      · rename_i hx
        go_roundg (gk - 1)
        case measure => omega
        case rel => exact ⟨k + 1, by omega, by go_num, ⟨by rw [any_take_succ r k hlt, HA.out.1, Hp.out, hx]; rfl, below_go HA.out.2 hbq⟩⟩
    · obtain rfl : k = 22 := by omega
      go_wp2
      go_ret
      exact ⟨ret_bool HA.out.1.symm, HA.out.2⟩
end Go.Proofs.YtikodgaomhmbmaaDoor
