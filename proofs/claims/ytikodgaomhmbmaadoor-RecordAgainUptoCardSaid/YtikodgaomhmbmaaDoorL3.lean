/-
  The walks of annalslaw4.sameWords and of the law LiftSteps.
-/
import Derived.Test.YtikodgaomhmbmaaDoorL2
set_option linter.unusedVariables false
set_option linter.unusedSimpArgs false
namespace Go.Proofs.YtikodgaomhmbmaaDoor
open Go.RowKit

theorem bs_bne {s t : ByteArray} (h : s ≠ t) : (s.toList != t.toList) = true := by
  rw [bne_iff_ne]
  intro e
  rw [ByteArray.toList_eq, ByteArray.toList_eq] at e
  exact h (ByteArray.ext (Array.ext' e))
theorem bs_beq {s t : ByteArray} (h : s ≠ t) : (s.toList == t.toList) = false := by
  have := bs_bne h
  simpa using this
set_option maxRecDepth 100000 in
/-- annalslaw4.sameWords. -/
theorem sameWords_calls (l m : List ByteArray) (A B : Option Addr) (c d : Nat) (w : World) (ha : RS w A l) (hb : RS w B m) (hl : l.length ≤ 140737488351232) (hm : m.length ≤ 140737488351232) :
    Calls Tryd.prog 24 #[.slice A l.length c, .slice B m.length d] w fun e w' => e = .returned (.bool (decide (l = m))) ∧ Below w.heap.size w w' := by
  by_cases hn : l.length = m.length
  · have hn1 : ((l.length : Int) == (m.length : Int)) = true := by simp [hn]
    have hn2 : ((l.length : Int) != (m.length : Int)) = false := by simp [hn]
    have hn3 : (l.length == m.length) = true := by simp [hn]
    have Hn := Lib.hid hn
    clear hn
    go_enter Tryd.func24, Tryd.ntmps24
    go_wp2
    go_loopg [5] l.length (fun n v5 wr => ∃ k : Nat, n + k = l.length ∧ v5 = .int .i64 k ∧ Aside ((∀ j, j < k → l[j]? = m[j]?) ∧ Below w.heap.size w wr))
    case atStart => exact ⟨0, by omega, rfl, ⟨fun j h => by omega, Below.refl _ _⟩⟩
    case round =>
      obtain ⟨k, hk, rfl, HA⟩ := hrel
      by_cases hlt : k < l.length
      · have hlm : k < m.length := by have := Hn.out; omega
        obtain ⟨ad, rfl, hca⟩ := (ha.next HA.out.2).get hlt
        obtain ⟨bd, rfl, hcb⟩ := (hb.next HA.out.2).get hlm
        by_cases hx : l[k] = m[k]
        · have hx1 : (l[k].toList == m[k].toList) = true := by simp [hx]
          have hx2 : (l[k].toList != m[k].toList) = false := by simp [hx]
          have Hx := Lib.hid hx
          clear hx
          go_wp2
          go_quiet (fail)
          go_wp2
          go_roundg (gk - 1)
          case measure => omega
          case rel => exact ⟨k + 1, by omega, by go_num, ⟨fun j h => by
            rcases Nat.lt_or_ge j k with hjk | hjk
            · exact HA.out.1 j hjk
            · obtain rfl : j = k := by omega
              rw [List.getElem?_eq_getElem hlt, List.getElem?_eq_getElem hlm, Hx.out], below_drewN HA.out.2 _⟩⟩
        · have hx1 := bs_beq hx
          have hx2 := bs_bne hx
          have Hx := Lib.hid hx
          clear hx
          go_wp2
          go_quiet (fail)
          go_wp2
          go_ret
          refine ⟨ret_bool ?_, below_drewN HA.out.2 _⟩
          symm
          rw [decide_eq_false_iff_not]
          rintro rfl
          exact Hx.out rfl
      · go_wp2
        go_ret
        refine ⟨ret_bool ?_, HA.out.2⟩
        symm
        rw [decide_eq_true_iff]
        exact list_eq_upto Hn.out fun j hj => HA.out.1 j (by omega)
  · have hn1 : ((l.length : Int) == (m.length : Int)) = false := by simp; omega
    have hn2 : ((l.length : Int) != (m.length : Int)) = true := by simp; omega
    have hn3 : (l.length == m.length) = false := by simp; omega
    have Hn := Lib.hid hn
    clear hn
    go_enter Tryd.func24, Tryd.ntmps24
    go_wp2
    go_ret
    refine ⟨ret_bool ?_, Below.refl _ _⟩
    symm
    rw [decide_eq_false_iff_not]
    rintro rfl
    exact Hn.out rfl

theorem sameWords_two (x y : ByteArray) (A B : Option Addr) (c d : Nat) (w : World) (ha : Reads w w.heap.size 1 A 2 (strs [x, y])) (hb : Reads w w.heap.size 1 B 2 (strs [x, y])) :
    Calls Tryd.prog 24 #[.slice A 2 c, .slice B 2 d] w fun e w' => e = .returned (.bool true) ∧ Below w.heap.size w w' :=
  (sameWords_calls [x, y] [x, y] A B c d w ha hb (by simp) (by simp)).mono fun _ _ ⟨he, hb⟩ => ⟨by simpa using he, hb⟩
theorem own_cells {w : World} {base g n c k : Nat} {e : TypeId} {xs : List Value} {v : Value} (h : w.ownsRow base e 1 (.slice (some ⟨g, 0, none⟩) n c) n xs) (hk : k < n) (hv : xs[k]? = some v) : w.cell? ⟨g, k, none⟩ = some v := by
  rcases own_cell (k := k) h with h1 | h1
  · exact h1.trans hv
  · omega
theorem steps_calls' {a b : Int} {l : List ByteArray} {n : Nat} (hl : stepsL a b = l) (hn : l.length = n) (w : World) (ht : Tab w 1 waysL) :
    Calls Tryd.prog 21 #[.int .i64 a, .int .i64 b] w fun e w' => ∃ A c, e = .returned (.slice A n c) ∧ w'.ownsRow w.heap.size 9 1 (.slice A n c) n (strs l) ∧ Below w.heap.size w w' := by
  subst hn
  subst hl
  exact steps_calls a b w ht
end Go.Proofs.YtikodgaomhmbmaaDoor
