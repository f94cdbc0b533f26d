/-
  The walks of record.within, record.label, record.zero, record.bounds.
-/
import Derived.Test.YtikodgaomhmbmaaDoorC0
set_option linter.unusedVariables false
set_option linter.unusedSimpArgs false
namespace Go.Proofs.YtikodgaomhmbmaaDoor
open Go.RowKit
attribute [local go_sem] Rec.size_ Rec.g0 Rec.g1 Rec.g2 Rec.g3 Rec.g4 Rec.g5 Rec.g6 Rec.g7 Rec.g8 Rec.g9 Rec.g10 Rec.g11

theorem recWithin_calls (n lo hi : Int) (w : World) : Calls Tryd.prog 91 #[.int .i64 n, .int .i64 lo, .int .i64 hi] w fun e w' => e = .returned (.int .i64 (withinE n lo hi)) ∧ w = w' := by
  by_cases h1 : n < lo
  · have t1 : decide (n < lo) = true := by simp [h1]
    have e : withinE n lo hi = 34 := by simp [withinE, h1]
    rw [e]
    clear e h1
    go_enter Tryd.func91, Tryd.ntmps91
    go_wp2
    go_ret
    exact ⟨rfl, rfl⟩
  · have t1 : decide (n < lo) = false := by simp; omega
    by_cases h2 : hi < n
    · have t2 : decide (hi < n) = true := by simp [h2]
      have e : withinE n lo hi = 34 := by simp [withinE, h1, h2]
      rw [e]
      clear e h1 h2
      go_enter Tryd.func91, Tryd.ntmps91
      go_wp2
      go_ret
      exact ⟨rfl, rfl⟩
    · have t2 : decide (hi < n) = false := by simp; omega
      have e : withinE n lo hi = 0 := by simp [withinE, h1, h2]
      rw [e]
      clear e h1 h2
      go_enter Tryd.func91, Tryd.ntmps91
      go_wp2
      go_ret
      exact ⟨rfl, rfl⟩

set_option maxRecDepth 100000 in
theorem label_calls (s : ByteArray) (hs : s.size ≤ 140737488351232) (w : World) (ht : Tabs w) : Calls Tryd.prog 92 #[.string s] w fun e w' => e = .returned (.int .i64 (labelE s)) ∧ Below w.heap.size w w' := by
  have HB := Below.refl w.heap.size w
  have cn := textName_calls s hs w ht.letters ht.utf8 ht.h5 ht.h6
  cases hn : isName s
  · rw [hn] at cn
    have e : labelE s = 35 := by simp [labelE, hn]
    rw [e]
    have Cn := Lib.hid cn
    clear cn hn e ht hs
    go_enter Tryd.func92, Tryd.ntmps92
    go_wp2_with (first
      | (go_at_call 103; (with_reducible refine (Cn.out).mono ?_); rintro e W1 ⟨c, p, rfl, hc, hb⟩; have hgr := grown_of_below hb; replace HB := HB.grown hgr (by have := HB.size; omega) (by simp); clear hb hgr; have t1 : (c != 0) = true := (by simp at hc ⊢; exact hc)))
    go_ret
    exact ⟨rfl, HB⟩
  · rw [hn] at cn
    have e : labelE s = 0 := by simp [labelE, hn]
    rw [e]
    have Cn := Lib.hid cn
    clear cn hn e ht hs
    go_enter Tryd.func92, Tryd.ntmps92
    go_wp2_with (first
      | (go_at_call 103; (with_reducible refine (Cn.out).mono ?_); rintro e W1 ⟨c, p, rfl, hc, hb⟩; have hgr := grown_of_below hb; replace HB := HB.grown hgr (by have := HB.size; omega) (by simp); clear hb hgr; have t1 : (c != 0) = false := (by simp at hc ⊢; exact hc)))
    go_ret
    exact ⟨rfl, HB⟩

theorem zero3_calls (r : Rec) (A : Option Addr) (c g : Nat) (w : World) (hg : Blk w g 27 (r.cells A c)) :
    Calls Tryd.prog 71 #[.pointer (some ⟨g, 0, none⟩), .int .i64 3] w fun e w' => e = .returned (.bool (r.zeroAt 3)) ∧ w = w' := by
  have hcg := hg.cell
  have hfg := hg.frozen
  have cn : ∀ w, Calls Tryd.prog 60 #[.pointer (some ⟨g, 0, none⟩), .int .i64 3] w fun e w' => e = .returned (.pointer (some ⟨g, 3, none⟩)) ∧ w = w' := fun w => number_calls g 3 (by omega) (by omega) w
  go_enter Tryd.func71, Tryd.ntmps71
  go_wp2_with (first
    | (go_at_call 60; (with_reducible refine (cn _).mono ?_); rintro e w1 ⟨rfl, rfl⟩))
  go_ret
  exact ⟨rfl, rfl⟩
theorem zero4_calls (r : Rec) (A : Option Addr) (c g : Nat) (w : World) (hg : Blk w g 27 (r.cells A c)) :
    Calls Tryd.prog 71 #[.pointer (some ⟨g, 0, none⟩), .int .i64 4] w fun e w' => e = .returned (.bool (r.zeroAt 4)) ∧ w = w' := by
  have hcg := hg.cell
  have hfg := hg.frozen
  have cn : ∀ w, Calls Tryd.prog 60 #[.pointer (some ⟨g, 0, none⟩), .int .i64 4] w fun e w' => e = .returned (.pointer (some ⟨g, 4, none⟩)) ∧ w = w' := fun w => number_calls g 4 (by omega) (by omega) w
  go_enter Tryd.func71, Tryd.ntmps71
  go_wp2_with (first
    | (go_at_call 60; (with_reducible refine (cn _).mono ?_); rintro e w1 ⟨rfl, rfl⟩))
  go_ret
  exact ⟨rfl, rfl⟩
theorem zero5_calls (r : Rec) (A : Option Addr) (c g : Nat) (w : World) (hg : Blk w g 27 (r.cells A c)) :
    Calls Tryd.prog 71 #[.pointer (some ⟨g, 0, none⟩), .int .i64 5] w fun e w' => e = .returned (.bool (r.zeroAt 5)) ∧ w = w' := by
  have hcg := hg.cell
  have hfg := hg.frozen
  have cn : ∀ w, Calls Tryd.prog 60 #[.pointer (some ⟨g, 0, none⟩), .int .i64 5] w fun e w' => e = .returned (.pointer (some ⟨g, 5, none⟩)) ∧ w = w' := fun w => number_calls g 5 (by omega) (by omega) w
  go_enter Tryd.func71, Tryd.ntmps71
  go_wp2_with (first
    | (go_at_call 60; (with_reducible refine (cn _).mono ?_); rintro e w1 ⟨rfl, rfl⟩))
  go_ret
  exact ⟨rfl, rfl⟩
theorem zero6_calls (r : Rec) (A : Option Addr) (c g : Nat) (w : World) (hg : Blk w g 27 (r.cells A c)) :
    Calls Tryd.prog 71 #[.pointer (some ⟨g, 0, none⟩), .int .i64 6] w fun e w' => e = .returned (.bool (r.zeroAt 6)) ∧ w = w' := by
  have hcg := hg.cell
  have hfg := hg.frozen
  have cn : ∀ w, Calls Tryd.prog 60 #[.pointer (some ⟨g, 0, none⟩), .int .i64 6] w fun e w' => e = .returned (.pointer (some ⟨g, 6, none⟩)) ∧ w = w' := fun w => number_calls g 6 (by omega) (by omega) w
  go_enter Tryd.func71, Tryd.ntmps71
  go_wp2_with (first
    | (go_at_call 60; (with_reducible refine (cn _).mono ?_); rintro e w1 ⟨rfl, rfl⟩))
  go_ret
  exact ⟨rfl, rfl⟩
theorem zero7_calls (r : Rec) (A : Option Addr) (c g : Nat) (w : World) (hg : Blk w g 27 (r.cells A c)) :
    Calls Tryd.prog 71 #[.pointer (some ⟨g, 0, none⟩), .int .i64 7] w fun e w' => e = .returned (.bool (r.zeroAt 7)) ∧ w = w' := by
  have hcg := hg.cell
  have hfg := hg.frozen
  have cn : ∀ w, Calls Tryd.prog 60 #[.pointer (some ⟨g, 0, none⟩), .int .i64 7] w fun e w' => e = .returned (.pointer (some ⟨g, 7, none⟩)) ∧ w = w' := fun w => number_calls g 7 (by omega) (by omega) w
  go_enter Tryd.func71, Tryd.ntmps71
  go_wp2_with (first
    | (go_at_call 60; (with_reducible refine (cn _).mono ?_); rintro e w1 ⟨rfl, rfl⟩))
  go_ret
  exact ⟨rfl, rfl⟩
theorem zero8_calls (r : Rec) (A : Option Addr) (c g : Nat) (w : World) (hg : Blk w g 27 (r.cells A c)) :
    Calls Tryd.prog 71 #[.pointer (some ⟨g, 0, none⟩), .int .i64 8] w fun e w' => e = .returned (.bool (r.zeroAt 8)) ∧ w = w' := by
  have hcg := hg.cell
  have hfg := hg.frozen
  have cn : ∀ w, Calls Tryd.prog 60 #[.pointer (some ⟨g, 0, none⟩), .int .i64 8] w fun e w' => e = .returned (.pointer (some ⟨g, 8, none⟩)) ∧ w = w' := fun w => number_calls g 8 (by omega) (by omega) w
  go_enter Tryd.func71, Tryd.ntmps71
  go_wp2_with (first
    | (go_at_call 60; (with_reducible refine (cn _).mono ?_); rintro e w1 ⟨rfl, rfl⟩))
  go_ret
  exact ⟨rfl, rfl⟩
theorem zero9_calls (r : Rec) (A : Option Addr) (c g : Nat) (w : World) (hg : Blk w g 27 (r.cells A c)) :
    Calls Tryd.prog 71 #[.pointer (some ⟨g, 0, none⟩), .int .i64 9] w fun e w' => e = .returned (.bool (r.zeroAt 9)) ∧ w = w' := by
  have hcg := hg.cell
  have hfg := hg.frozen
  have cn : ∀ w, Calls Tryd.prog 60 #[.pointer (some ⟨g, 0, none⟩), .int .i64 9] w fun e w' => e = .returned (.pointer (some ⟨g, 9, none⟩)) ∧ w = w' := fun w => number_calls g 9 (by omega) (by omega) w
  go_enter Tryd.func71, Tryd.ntmps71
  go_wp2_with (first
    | (go_at_call 60; (with_reducible refine (cn _).mono ?_); rintro e w1 ⟨rfl, rfl⟩))
  go_ret
  exact ⟨rfl, rfl⟩
theorem name_isEmpty (s : ByteArray) : s.toList.isEmpty = decide (s.size = 0) := by
  rw [ByteArray.toList_eq]
  cases s with
  | mk a =>
    have e : (⟨a⟩ : ByteArray).size = a.size := rfl
    rw [e]
    by_cases h : a.size = 0
    · have : a = #[] := Array.eq_empty_of_size_eq_zero h
      subst this
      rfl
    · have : a.toList ≠ [] := fun e => h (by simpa using congrArg List.length e)
      simp [h]
      exact fun e => h (by rw [e]; rfl)
theorem len_zero (n : Nat) : ((n : Int) == 0) = decide (n = 0) := by
  by_cases h : n = 0
  · subst h; rfl
  · rw [int_beq_false (by omega)]; simp [h]
theorem zero10_calls (r : Rec) (A : Option Addr) (c g : Nat) (w : World) (hg : Blk w g 27 (r.cells A c)) :
    Calls Tryd.prog 71 #[.pointer (some ⟨g, 0, none⟩), .int .i64 10] w fun e w' => e = .returned (.bool (r.zeroAt 10)) ∧ w = w' := by
  have hcg := hg.cell
  have hfg := hg.frozen
  go_enter Tryd.func71, Tryd.ntmps71
  go_wp2
  go_ret
  exact ⟨ret_bool (name_isEmpty r.Name), rfl⟩
theorem zero11_calls (r : Rec) (A : Option Addr) (c g : Nat) (w : World) (hg : Blk w g 27 (r.cells A c)) :
    Calls Tryd.prog 71 #[.pointer (some ⟨g, 0, none⟩), .int .i64 11] w fun e w' => e = .returned (.bool (r.zeroAt 11)) ∧ w = w' := by
  have hcg := hg.cell
  have hfg := hg.frozen
  go_enter Tryd.func71, Tryd.ntmps71
  go_wp2
  go_ret
  exact ⟨ret_bool (len_zero _), rfl⟩
theorem zero_calls (r : Rec) (A : Option Addr) (c g t : Nat) (h3 : 3 ≤ t) (h11 : t ≤ 11) (w : World) (hg : Blk w g 27 (r.cells A c)) :
    Calls Tryd.prog 71 #[.pointer (some ⟨g, 0, none⟩), .int .i64 t] w fun e w' => e = .returned (.bool (r.zeroAt t)) ∧ w = w' := by
  obtain rfl | rfl | rfl | rfl | rfl | rfl | rfl | rfl | rfl : t = 3 ∨ t = 4 ∨ t = 5 ∨ t = 6 ∨ t = 7 ∨ t = 8 ∨ t = 9 ∨ t = 10 ∨ t = 11 := by omega
  · exact zero3_calls r A c g w hg
  · exact zero4_calls r A c g w hg
  · exact zero5_calls r A c g w hg
  · exact zero6_calls r A c g w hg
  · exact zero7_calls r A c g w hg
  · exact zero8_calls r A c g w hg
  · exact zero9_calls r A c g w hg
  · exact zero10_calls r A c g w hg
  · exact zero11_calls r A c g w hg
end Go.Proofs.YtikodgaomhmbmaaDoor
