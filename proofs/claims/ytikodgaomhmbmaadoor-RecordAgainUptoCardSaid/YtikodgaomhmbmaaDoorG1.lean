/-
  The walks of annalsref3.within, label, zero, bounds.
-/
import Derived.Test.YtikodgaomhmbmaaDoorC1
import Derived.Test.YtikodgaomhmbmaaDoorN13
set_option linter.unusedVariables false
set_option linter.unusedSimpArgs false
namespace Go.Proofs.YtikodgaomhmbmaaDoor
open Go.RowKit
attribute [local go_sem] Rec.size_ Rec.g0 Rec.g1 Rec.g2 Rec.g3 Rec.g4 Rec.g5 Rec.g6 Rec.g7 Rec.g8 Rec.g9 Rec.g10 Rec.g11

theorem refWithin_calls (n lo hi : Int) (w : World) : Calls Tryd.prog 94 #[.int .i64 n, .int .i64 lo, .int .i64 hi] w fun e w' => e = .returned (.int .i64 (withinE n lo hi)) ∧ w = w' := by
  by_cases h1 : n < lo
  · have t1 : decide (n < lo) = true := by simp [h1]
    have e : withinE n lo hi = 34 := by simp [withinE, h1]
    rw [e]
    clear e h1
    go_enter Tryd.func94, Tryd.ntmps94
    go_wp2
    go_ret
    exact ⟨rfl, rfl⟩
  · have t1 : decide (n < lo) = false := by simp; omega
    by_cases h2 : hi < n
    · have t2 : decide (hi < n) = true := by simp [h2]
      have e : withinE n lo hi = 34 := by simp [withinE, h1, h2]
      rw [e]
      clear e h1 h2
      go_enter Tryd.func94, Tryd.ntmps94
      go_wp2
      go_ret
      exact ⟨rfl, rfl⟩
    · have t2 : decide (hi < n) = false := by simp; omega
      have e : withinE n lo hi = 0 := by simp [withinE, h1, h2]
      rw [e]
      clear e h1 h2
      go_enter Tryd.func94, Tryd.ntmps94
      go_wp2
      go_ret
      exact ⟨rfl, rfl⟩

set_option maxRecDepth 100000 in
theorem refLabel_calls (s : ByteArray) (hs : s.size ≤ 1099511627776) (w : World) (ht : Tab w 4 (letCells .i64)) : Calls Tryd.prog 95 #[.string s] w fun e w' => e = .returned (.int .i64 (labelE s)) ∧ Below w.heap.size w w' := by
  have HB := Below.refl w.heap.size w
  have cn := refName_calls s hs w ht
  cases hn : isName s
  · rw [hn] at cn
    have e : labelE s = 35 := by simp [labelE, hn]
    rw [e]
    have Cn := Lib.hid cn
    clear cn hn e ht hs
    go_enter Tryd.func95, Tryd.ntmps95
    go_wp2_with (first
      | (go_at_call 104; (with_reducible refine (Cn.out).mono ?_); rintro e W1 ⟨c, p, rfl, hc, hb⟩; have hgr := grown_of_below hb; replace HB := HB.grown hgr (by have := HB.size; omega) (by simp); clear hb hgr; have t1 : (c != 0) = true := (by simp at hc ⊢; exact hc)))
    go_ret
    exact ⟨rfl, HB⟩
  · rw [hn] at cn
    have e : labelE s = 0 := by simp [labelE, hn]
    rw [e]
    have Cn := Lib.hid cn
    clear cn hn e ht hs
    go_enter Tryd.func95, Tryd.ntmps95
    go_wp2_with (first
      | (go_at_call 104; (with_reducible refine (Cn.out).mono ?_); rintro e W1 ⟨c, p, rfl, hc, hb⟩; have hgr := grown_of_below hb; replace HB := HB.grown hgr (by have := HB.size; omega) (by simp); clear hb hgr; have t1 : (c != 0) = false := (by simp at hc ⊢; exact hc)))
    go_ret
    exact ⟨rfl, HB⟩

set_option maxRecDepth 100000 in
theorem refZero3_calls (r : Rec) (A : Option Addr) (c : Nat) (w : World) :
    Calls Tryd.prog 76 #[.agg (r.cells A c), .int .i64 3] w fun e w' => e = .returned (.bool (r.zeroAt 3)) ∧ Below w.heap.size w w' := by
  have HB := Below.refl w.heap.size w
  have cn : ∀ w, Calls Tryd.prog 67 #[.agg (r.cells A c), .int .i64 3] w fun e w' => e = .returned (.int .i64 (r.num 3)) ∧ Below w.heap.size w w' := fun w => refNumber_calls r A c 3 (by omega) (by omega) w
  go_enter Tryd.func76, Tryd.ntmps76
  go_wp2_with (first
    | ((with_reducible refine gate_dst (N := 2) rfl ?_); refine ev_box rfl rfl (r.cells A c) rfl ?_; intro g1 W1 hg1 hsz hbn; have hgr := grown_of_below hbn; have zg1 : w.heap.size ≤ g1 := (by have := HB.size; omega); replace HB := HB.grown hgr (by have := HB.size; omega) (by simp); have hcg1 := hg1.cell; have hfg1 := hg1.frozen; clear hsz hbn hgr)
    | ((with_reducible refine gate_dst (N := 18) rfl ?_); refine wpList_load_row rfl _ _ rfl g1 rfl _ _ (0, 0) _ hg1 Tryd.underlying27 rfl rec_size ?_)
    | (go_at_call 67; (with_reducible refine (cn _).mono ?_); rintro e W2 ⟨rfl, hb⟩; have hgr := grown_of_below hb; replace hg1 := hg1.grown hgr (by simp); replace HB := HB.grown hgr (by have := HB.size; omega) (by simp); replace hcg1 := hg1.cell; replace hfg1 := hg1.frozen; clear hb hgr))
  go_ret
  exact ⟨rfl, HB⟩
set_option maxRecDepth 100000 in
theorem refZero4_calls (r : Rec) (A : Option Addr) (c : Nat) (w : World) :
    Calls Tryd.prog 76 #[.agg (r.cells A c), .int .i64 4] w fun e w' => e = .returned (.bool (r.zeroAt 4)) ∧ Below w.heap.size w w' := by
  have HB := Below.refl w.heap.size w
  have cn : ∀ w, Calls Tryd.prog 67 #[.agg (r.cells A c), .int .i64 4] w fun e w' => e = .returned (.int .i64 (r.num 4)) ∧ Below w.heap.size w w' := fun w => refNumber_calls r A c 4 (by omega) (by omega) w
  go_enter Tryd.func76, Tryd.ntmps76
  go_wp2_with (first
    | ((with_reducible refine gate_dst (N := 2) rfl ?_); refine ev_box rfl rfl (r.cells A c) rfl ?_; intro g1 W1 hg1 hsz hbn; have hgr := grown_of_below hbn; have zg1 : w.heap.size ≤ g1 := (by have := HB.size; omega); replace HB := HB.grown hgr (by have := HB.size; omega) (by simp); have hcg1 := hg1.cell; have hfg1 := hg1.frozen; clear hsz hbn hgr)
    | ((with_reducible refine gate_dst (N := 18) rfl ?_); refine wpList_load_row rfl _ _ rfl g1 rfl _ _ (0, 0) _ hg1 Tryd.underlying27 rfl rec_size ?_)
    | (go_at_call 67; (with_reducible refine (cn _).mono ?_); rintro e W2 ⟨rfl, hb⟩; have hgr := grown_of_below hb; replace hg1 := hg1.grown hgr (by simp); replace HB := HB.grown hgr (by have := HB.size; omega) (by simp); replace hcg1 := hg1.cell; replace hfg1 := hg1.frozen; clear hb hgr))
  go_ret
  exact ⟨rfl, HB⟩
set_option maxRecDepth 100000 in
theorem refZero5_calls (r : Rec) (A : Option Addr) (c : Nat) (w : World) :
    Calls Tryd.prog 76 #[.agg (r.cells A c), .int .i64 5] w fun e w' => e = .returned (.bool (r.zeroAt 5)) ∧ Below w.heap.size w w' := by
  have HB := Below.refl w.heap.size w
  have cn : ∀ w, Calls Tryd.prog 67 #[.agg (r.cells A c), .int .i64 5] w fun e w' => e = .returned (.int .i64 (r.num 5)) ∧ Below w.heap.size w w' := fun w => refNumber_calls r A c 5 (by omega) (by omega) w
  go_enter Tryd.func76, Tryd.ntmps76
  go_wp2_with (first
    | ((with_reducible refine gate_dst (N := 2) rfl ?_); refine ev_box rfl rfl (r.cells A c) rfl ?_; intro g1 W1 hg1 hsz hbn; have hgr := grown_of_below hbn; have zg1 : w.heap.size ≤ g1 := (by have := HB.size; omega); replace HB := HB.grown hgr (by have := HB.size; omega) (by simp); have hcg1 := hg1.cell; have hfg1 := hg1.frozen; clear hsz hbn hgr)
    | ((with_reducible refine gate_dst (N := 18) rfl ?_); refine wpList_load_row rfl _ _ rfl g1 rfl _ _ (0, 0) _ hg1 Tryd.underlying27 rfl rec_size ?_)
    | (go_at_call 67; (with_reducible refine (cn _).mono ?_); rintro e W2 ⟨rfl, hb⟩; have hgr := grown_of_below hb; replace hg1 := hg1.grown hgr (by simp); replace HB := HB.grown hgr (by have := HB.size; omega) (by simp); replace hcg1 := hg1.cell; replace hfg1 := hg1.frozen; clear hb hgr))
  go_ret
  exact ⟨rfl, HB⟩
set_option maxRecDepth 100000 in
theorem refZero6_calls (r : Rec) (A : Option Addr) (c : Nat) (w : World) :
    Calls Tryd.prog 76 #[.agg (r.cells A c), .int .i64 6] w fun e w' => e = .returned (.bool (r.zeroAt 6)) ∧ Below w.heap.size w w' := by
  have HB := Below.refl w.heap.size w
  have cn : ∀ w, Calls Tryd.prog 67 #[.agg (r.cells A c), .int .i64 6] w fun e w' => e = .returned (.int .i64 (r.num 6)) ∧ Below w.heap.size w w' := fun w => refNumber_calls r A c 6 (by omega) (by omega) w
  go_enter Tryd.func76, Tryd.ntmps76
  go_wp2_with (first
    | ((with_reducible refine gate_dst (N := 2) rfl ?_); refine ev_box rfl rfl (r.cells A c) rfl ?_; intro g1 W1 hg1 hsz hbn; have hgr := grown_of_below hbn; have zg1 : w.heap.size ≤ g1 := (by have := HB.size; omega); replace HB := HB.grown hgr (by have := HB.size; omega) (by simp); have hcg1 := hg1.cell; have hfg1 := hg1.frozen; clear hsz hbn hgr)
    | ((with_reducible refine gate_dst (N := 18) rfl ?_); refine wpList_load_row rfl _ _ rfl g1 rfl _ _ (0, 0) _ hg1 Tryd.underlying27 rfl rec_size ?_)
    | (go_at_call 67; (with_reducible refine (cn _).mono ?_); rintro e W2 ⟨rfl, hb⟩; have hgr := grown_of_below hb; replace hg1 := hg1.grown hgr (by simp); replace HB := HB.grown hgr (by have := HB.size; omega) (by simp); replace hcg1 := hg1.cell; replace hfg1 := hg1.frozen; clear hb hgr))
  go_ret
  exact ⟨rfl, HB⟩
set_option maxRecDepth 100000 in
theorem refZero7_calls (r : Rec) (A : Option Addr) (c : Nat) (w : World) :
    Calls Tryd.prog 76 #[.agg (r.cells A c), .int .i64 7] w fun e w' => e = .returned (.bool (r.zeroAt 7)) ∧ Below w.heap.size w w' := by
  have HB := Below.refl w.heap.size w
  have cn : ∀ w, Calls Tryd.prog 67 #[.agg (r.cells A c), .int .i64 7] w fun e w' => e = .returned (.int .i64 (r.num 7)) ∧ Below w.heap.size w w' := fun w => refNumber_calls r A c 7 (by omega) (by omega) w
  go_enter Tryd.func76, Tryd.ntmps76
  go_wp2_with (first
    | ((with_reducible refine gate_dst (N := 2) rfl ?_); refine ev_box rfl rfl (r.cells A c) rfl ?_; intro g1 W1 hg1 hsz hbn; have hgr := grown_of_below hbn; have zg1 : w.heap.size ≤ g1 := (by have := HB.size; omega); replace HB := HB.grown hgr (by have := HB.size; omega) (by simp); have hcg1 := hg1.cell; have hfg1 := hg1.frozen; clear hsz hbn hgr)
    | ((with_reducible refine gate_dst (N := 18) rfl ?_); refine wpList_load_row rfl _ _ rfl g1 rfl _ _ (0, 0) _ hg1 Tryd.underlying27 rfl rec_size ?_)
    | (go_at_call 67; (with_reducible refine (cn _).mono ?_); rintro e W2 ⟨rfl, hb⟩; have hgr := grown_of_below hb; replace hg1 := hg1.grown hgr (by simp); replace HB := HB.grown hgr (by have := HB.size; omega) (by simp); replace hcg1 := hg1.cell; replace hfg1 := hg1.frozen; clear hb hgr))
  go_ret
  exact ⟨rfl, HB⟩
set_option maxRecDepth 100000 in
theorem refZero8_calls (r : Rec) (A : Option Addr) (c : Nat) (w : World) :
    Calls Tryd.prog 76 #[.agg (r.cells A c), .int .i64 8] w fun e w' => e = .returned (.bool (r.zeroAt 8)) ∧ Below w.heap.size w w' := by
  have HB := Below.refl w.heap.size w
  have cn : ∀ w, Calls Tryd.prog 67 #[.agg (r.cells A c), .int .i64 8] w fun e w' => e = .returned (.int .i64 (r.num 8)) ∧ Below w.heap.size w w' := fun w => refNumber_calls r A c 8 (by omega) (by omega) w
  go_enter Tryd.func76, Tryd.ntmps76
  go_wp2_with (first
    | ((with_reducible refine gate_dst (N := 2) rfl ?_); refine ev_box rfl rfl (r.cells A c) rfl ?_; intro g1 W1 hg1 hsz hbn; have hgr := grown_of_below hbn; have zg1 : w.heap.size ≤ g1 := (by have := HB.size; omega); replace HB := HB.grown hgr (by have := HB.size; omega) (by simp); have hcg1 := hg1.cell; have hfg1 := hg1.frozen; clear hsz hbn hgr)
    | ((with_reducible refine gate_dst (N := 18) rfl ?_); refine wpList_load_row rfl _ _ rfl g1 rfl _ _ (0, 0) _ hg1 Tryd.underlying27 rfl rec_size ?_)
    | (go_at_call 67; (with_reducible refine (cn _).mono ?_); rintro e W2 ⟨rfl, hb⟩; have hgr := grown_of_below hb; replace hg1 := hg1.grown hgr (by simp); replace HB := HB.grown hgr (by have := HB.size; omega) (by simp); replace hcg1 := hg1.cell; replace hfg1 := hg1.frozen; clear hb hgr))
  go_ret
  exact ⟨rfl, HB⟩
set_option maxRecDepth 100000 in
theorem refZero9_calls (r : Rec) (A : Option Addr) (c : Nat) (w : World) :
    Calls Tryd.prog 76 #[.agg (r.cells A c), .int .i64 9] w fun e w' => e = .returned (.bool (r.zeroAt 9)) ∧ Below w.heap.size w w' := by
  have HB := Below.refl w.heap.size w
  have cn : ∀ w, Calls Tryd.prog 67 #[.agg (r.cells A c), .int .i64 9] w fun e w' => e = .returned (.int .i64 (r.num 9)) ∧ Below w.heap.size w w' := fun w => refNumber_calls r A c 9 (by omega) (by omega) w
  go_enter Tryd.func76, Tryd.ntmps76
  go_wp2_with (first
    | ((with_reducible refine gate_dst (N := 2) rfl ?_); refine ev_box rfl rfl (r.cells A c) rfl ?_; intro g1 W1 hg1 hsz hbn; have hgr := grown_of_below hbn; have zg1 : w.heap.size ≤ g1 := (by have := HB.size; omega); replace HB := HB.grown hgr (by have := HB.size; omega) (by simp); have hcg1 := hg1.cell; have hfg1 := hg1.frozen; clear hsz hbn hgr)
    | ((with_reducible refine gate_dst (N := 18) rfl ?_); refine wpList_load_row rfl _ _ rfl g1 rfl _ _ (0, 0) _ hg1 Tryd.underlying27 rfl rec_size ?_)
    | (go_at_call 67; (with_reducible refine (cn _).mono ?_); rintro e W2 ⟨rfl, hb⟩; have hgr := grown_of_below hb; replace hg1 := hg1.grown hgr (by simp); replace HB := HB.grown hgr (by have := HB.size; omega) (by simp); replace hcg1 := hg1.cell; replace hfg1 := hg1.frozen; clear hb hgr))
  go_ret
  exact ⟨rfl, HB⟩
set_option maxRecDepth 100000 in
theorem refZero10_calls (r : Rec) (A : Option Addr) (c : Nat) (w : World) :
    Calls Tryd.prog 76 #[.agg (r.cells A c), .int .i64 10] w fun e w' => e = .returned (.bool (r.zeroAt 10)) ∧ Below w.heap.size w w' := by
  have HB := Below.refl w.heap.size w
  go_enter Tryd.func76, Tryd.ntmps76
  go_wp2_with (first
    | ((with_reducible refine gate_dst (N := 2) rfl ?_); refine ev_box rfl rfl (r.cells A c) rfl ?_; intro g1 W1 hg1 hsz hbn; have hgr := grown_of_below hbn; have zg1 : w.heap.size ≤ g1 := (by have := HB.size; omega); replace HB := HB.grown hgr (by have := HB.size; omega) (by simp); have hcg1 := hg1.cell; have hfg1 := hg1.frozen; clear hsz hbn hgr))
  go_ret
  exact ⟨ret_bool (name_isEmpty r.Name), HB⟩
set_option maxRecDepth 100000 in
theorem refZero11_calls (r : Rec) (A : Option Addr) (c : Nat) (w : World) :
    Calls Tryd.prog 76 #[.agg (r.cells A c), .int .i64 11] w fun e w' => e = .returned (.bool (r.zeroAt 11)) ∧ Below w.heap.size w w' := by
  have HB := Below.refl w.heap.size w
  go_enter Tryd.func76, Tryd.ntmps76
  go_wp2_with (first
    | ((with_reducible refine gate_dst (N := 2) rfl ?_); refine ev_box rfl rfl (r.cells A c) rfl ?_; intro g1 W1 hg1 hsz hbn; have hgr := grown_of_below hbn; have zg1 : w.heap.size ≤ g1 := (by have := HB.size; omega); replace HB := HB.grown hgr (by have := HB.size; omega) (by simp); have hcg1 := hg1.cell; have hfg1 := hg1.frozen; clear hsz hbn hgr))
  go_ret
  exact ⟨ret_bool (len_zero _), HB⟩
theorem refZero_calls (r : Rec) (A : Option Addr) (c t : Nat) (h3 : 3 ≤ t) (h11 : t ≤ 11) (w : World) :
    Calls Tryd.prog 76 #[.agg (r.cells A c), .int .i64 t] w fun e w' => e = .returned (.bool (r.zeroAt t)) ∧ Below w.heap.size w w' := by
  obtain rfl | rfl | rfl | rfl | rfl | rfl | rfl | rfl | rfl : t = 3 ∨ t = 4 ∨ t = 5 ∨ t = 6 ∨ t = 7 ∨ t = 8 ∨ t = 9 ∨ t = 10 ∨ t = 11 := by omega
  · exact refZero3_calls r A c w
  · exact refZero4_calls r A c w
  · exact refZero5_calls r A c w
  · exact refZero6_calls r A c w
  · exact refZero7_calls r A c w
  · exact refZero8_calls r A c w
  · exact refZero9_calls r A c w
  · exact refZero10_calls r A c w
  · exact refZero11_calls r A c w

set_option maxRecDepth 100000 in
theorem refBound4_calls (r : Rec) (A : Option Addr) (c : Nat) (w : World) :
    Calls Tryd.prog 81 #[.agg (r.cells A c), .int .i64 4] w fun e w' => e = .returned (.int .i64 (r.bound 4)) ∧ Below w.heap.size w w' := by
  have HB := Below.refl w.heap.size w
  have key : ∀ o1 o2 : Bool, (r.V == 1) = o1 → (r.Kind == 1) = o2 → Calls Tryd.prog 81 #[.agg (r.cells A c), .int .i64 4] w fun e w' => e = .returned (.int .i64 (r.bound 4)) ∧ Below w.heap.size w w' := by
    intro o1 o2 h1 h2
    cases o1 <;> cases o2
    all_goals
      go_enter Tryd.func81, Tryd.ntmps81
      go_wp2_with (first
        | ((with_reducible refine gate_dst (N := 2) rfl ?_); refine ev_box rfl rfl (r.cells A c) rfl ?_; intro g1 W1 hg1 hsz hbn; have hgr := grown_of_below hbn; have zg1 : w.heap.size ≤ g1 := (by have := HB.size; omega); replace HB := HB.grown hgr (by have := HB.size; omega) (by simp); have hcg1 := hg1.cell; have hfg1 := hg1.frozen; clear hsz hbn hgr)
        | (go_at_call 94; (with_reducible refine (refWithin_calls _ _ _ _).mono ?_); rintro e w1 ⟨rfl, rfl⟩))
      go_ret
      exact ⟨rfl, HB⟩
  exact key _ _ rfl rfl
set_option maxRecDepth 100000 in
theorem refBound5_calls (r : Rec) (A : Option Addr) (c : Nat) (w : World) :
    Calls Tryd.prog 81 #[.agg (r.cells A c), .int .i64 5] w fun e w' => e = .returned (.int .i64 (r.bound 5)) ∧ Below w.heap.size w w' := by
  have HB := Below.refl w.heap.size w
  have key : ∀ o1 o2 : Bool, (r.V == 1) = o1 → (r.Kind == 1) = o2 → Calls Tryd.prog 81 #[.agg (r.cells A c), .int .i64 5] w fun e w' => e = .returned (.int .i64 (r.bound 5)) ∧ Below w.heap.size w w' := by
    intro o1 o2 h1 h2
    cases o1 <;> cases o2
    all_goals
      go_enter Tryd.func81, Tryd.ntmps81
      go_wp2_with (first
        | ((with_reducible refine gate_dst (N := 2) rfl ?_); refine ev_box rfl rfl (r.cells A c) rfl ?_; intro g1 W1 hg1 hsz hbn; have hgr := grown_of_below hbn; have zg1 : w.heap.size ≤ g1 := (by have := HB.size; omega); replace HB := HB.grown hgr (by have := HB.size; omega) (by simp); have hcg1 := hg1.cell; have hfg1 := hg1.frozen; clear hsz hbn hgr)
        | (go_at_call 94; (with_reducible refine (refWithin_calls _ _ _ _).mono ?_); rintro e w1 ⟨rfl, rfl⟩))
      go_ret
      exact ⟨rfl, HB⟩
  exact key _ _ rfl rfl
set_option maxRecDepth 100000 in
theorem refBound6_calls (r : Rec) (A : Option Addr) (c : Nat) (w : World) :
    Calls Tryd.prog 81 #[.agg (r.cells A c), .int .i64 6] w fun e w' => e = .returned (.int .i64 (r.bound 6)) ∧ Below w.heap.size w w' := by
  have HB := Below.refl w.heap.size w
  have key : ∀ o1 o2 : Bool, (r.V == 1) = o1 → (r.Kind == 1) = o2 → Calls Tryd.prog 81 #[.agg (r.cells A c), .int .i64 6] w fun e w' => e = .returned (.int .i64 (r.bound 6)) ∧ Below w.heap.size w w' := by
    intro o1 o2 h1 h2
    cases o1 <;> cases o2
    all_goals
      go_enter Tryd.func81, Tryd.ntmps81
      go_wp2_with (first
        | ((with_reducible refine gate_dst (N := 2) rfl ?_); refine ev_box rfl rfl (r.cells A c) rfl ?_; intro g1 W1 hg1 hsz hbn; have hgr := grown_of_below hbn; have zg1 : w.heap.size ≤ g1 := (by have := HB.size; omega); replace HB := HB.grown hgr (by have := HB.size; omega) (by simp); have hcg1 := hg1.cell; have hfg1 := hg1.frozen; clear hsz hbn hgr)
        | (go_at_call 94; (with_reducible refine (refWithin_calls _ _ _ _).mono ?_); rintro e w1 ⟨rfl, rfl⟩))
      go_ret
      exact ⟨rfl, HB⟩
  exact key _ _ rfl rfl
set_option maxRecDepth 100000 in
theorem refBound8_calls (r : Rec) (A : Option Addr) (c : Nat) (w : World) :
    Calls Tryd.prog 81 #[.agg (r.cells A c), .int .i64 8] w fun e w' => e = .returned (.int .i64 (r.bound 8)) ∧ Below w.heap.size w w' := by
  have HB := Below.refl w.heap.size w
  have key : ∀ o1 o2 : Bool, (r.V == 1) = o1 → (r.Kind == 1) = o2 → Calls Tryd.prog 81 #[.agg (r.cells A c), .int .i64 8] w fun e w' => e = .returned (.int .i64 (r.bound 8)) ∧ Below w.heap.size w w' := by
    intro o1 o2 h1 h2
    cases o1 <;> cases o2
    all_goals
      go_enter Tryd.func81, Tryd.ntmps81
      go_wp2_with (first
        | ((with_reducible refine gate_dst (N := 2) rfl ?_); refine ev_box rfl rfl (r.cells A c) rfl ?_; intro g1 W1 hg1 hsz hbn; have hgr := grown_of_below hbn; have zg1 : w.heap.size ≤ g1 := (by have := HB.size; omega); replace HB := HB.grown hgr (by have := HB.size; omega) (by simp); have hcg1 := hg1.cell; have hfg1 := hg1.frozen; clear hsz hbn hgr)
        | (go_at_call 94; (with_reducible refine (refWithin_calls _ _ _ _).mono ?_); rintro e w1 ⟨rfl, rfl⟩))
      go_ret
      exact ⟨rfl, HB⟩
  exact key _ _ rfl rfl
set_option maxRecDepth 100000 in
theorem refBound9_calls (r : Rec) (A : Option Addr) (c : Nat) (w : World) :
    Calls Tryd.prog 81 #[.agg (r.cells A c), .int .i64 9] w fun e w' => e = .returned (.int .i64 (r.bound 9)) ∧ Below w.heap.size w w' := by
  have HB := Below.refl w.heap.size w
  have key : ∀ o1 o2 : Bool, (r.V == 1) = o1 → (r.Kind == 1) = o2 → Calls Tryd.prog 81 #[.agg (r.cells A c), .int .i64 9] w fun e w' => e = .returned (.int .i64 (r.bound 9)) ∧ Below w.heap.size w w' := by
    intro o1 o2 h1 h2
    cases o1 <;> cases o2
    all_goals
      go_enter Tryd.func81, Tryd.ntmps81
      go_wp2_with (first
        | ((with_reducible refine gate_dst (N := 2) rfl ?_); refine ev_box rfl rfl (r.cells A c) rfl ?_; intro g1 W1 hg1 hsz hbn; have hgr := grown_of_below hbn; have zg1 : w.heap.size ≤ g1 := (by have := HB.size; omega); replace HB := HB.grown hgr (by have := HB.size; omega) (by simp); have hcg1 := hg1.cell; have hfg1 := hg1.frozen; clear hsz hbn hgr)
        | (go_at_call 94; (with_reducible refine (refWithin_calls _ _ _ _).mono ?_); rintro e w1 ⟨rfl, rfl⟩))
      go_ret
      exact ⟨rfl, HB⟩
  exact key _ _ rfl rfl
set_option maxRecDepth 100000 in
theorem refBound3_calls (r : Rec) (A : Option Addr) (c : Nat) (w : World) :
    Calls Tryd.prog 81 #[.agg (r.cells A c), .int .i64 3] w fun e w' => e = .returned (.int .i64 (r.bound 3)) ∧ Below w.heap.size w w' := by
  have HB := Below.refl w.heap.size w
  have key : ∀ o1 o2 : Bool, (r.V == 1) = o1 → (r.Kind == 1) = o2 → Calls Tryd.prog 81 #[.agg (r.cells A c), .int .i64 3] w fun e w' => e = .returned (.int .i64 (r.bound 3)) ∧ Below w.heap.size w w' := by
    intro o1 o2 h1 h2
    have e : r.bound 3 = if (o1 && o2) then withinE r.Step 1 32 else withinE r.Step 0 31 := by rw [← h1, ← h2]; rfl
    rw [e]
    clear e
    cases o1 <;> cases o2
    all_goals
      go_enter Tryd.func81, Tryd.ntmps81
      go_wp2_with (first
        | ((with_reducible refine gate_dst (N := 2) rfl ?_); refine ev_box rfl rfl (r.cells A c) rfl ?_; intro g1 W1 hg1 hsz hbn; have hgr := grown_of_below hbn; have zg1 : w.heap.size ≤ g1 := (by have := HB.size; omega); replace HB := HB.grown hgr (by have := HB.size; omega) (by simp); have hcg1 := hg1.cell; have hfg1 := hg1.frozen; clear hsz hbn hgr)
        | (go_at_call 94; (with_reducible refine (refWithin_calls _ _ _ _).mono ?_); rintro e w1 ⟨rfl, rfl⟩))
      go_ret
      exact ⟨rfl, HB⟩
  exact key _ _ rfl rfl
set_option maxRecDepth 100000 in
theorem refBound7_calls (r : Rec) (A : Option Addr) (c : Nat) (w : World) :
    Calls Tryd.prog 81 #[.agg (r.cells A c), .int .i64 7] w fun e w' => e = .returned (.int .i64 (r.bound 7)) ∧ Below w.heap.size w w' := by
  have HB := Below.refl w.heap.size w
  have key : ∀ o1 o2 o3 : Bool, (r.V == 1) = o1 → (r.Kind == 1) = o2 → (r.Kind == 7) = o3 → Calls Tryd.prog 81 #[.agg (r.cells A c), .int .i64 7] w fun e w' => e = .returned (.int .i64 (r.bound 7)) ∧ Below w.heap.size w w' := by
    intro o1 o2 o3 h1 h2 h3
    have e : r.bound 7 = if o3 then withinE r.Code 0 2 else 0 := by
      show (if r.Kind = 7 then withinE r.Code 0 2 else 0) = _
      rw [← h3]
      simp
    rw [e]
    clear e
    cases o1 <;> cases o2 <;> cases o3
    all_goals
      go_enter Tryd.func81, Tryd.ntmps81
      go_wp2_with (first
        | ((with_reducible refine gate_dst (N := 2) rfl ?_); refine ev_box rfl rfl (r.cells A c) rfl ?_; intro g1 W1 hg1 hsz hbn; have hgr := grown_of_below hbn; have zg1 : w.heap.size ≤ g1 := (by have := HB.size; omega); replace HB := HB.grown hgr (by have := HB.size; omega) (by simp); have hcg1 := hg1.cell; have hfg1 := hg1.frozen; clear hsz hbn hgr)
        | (go_at_call 94; (with_reducible refine (refWithin_calls _ _ _ _).mono ?_); rintro e w1 ⟨rfl, rfl⟩))
      go_ret
      exact ⟨rfl, HB⟩
  exact key _ _ _ rfl rfl rfl
set_option maxRecDepth 100000 in
theorem refBound10_calls (r : Rec) (A : Option Addr) (c : Nat) (hs : r.Name.size ≤ 1099511627776) (w : World) (ht : Tab w 4 (letCells .i64)) :
    Calls Tryd.prog 81 #[.agg (r.cells A c), .int .i64 10] w fun e w' => e = .returned (.int .i64 (r.bound 10)) ∧ Below w.heap.size w w' := by
  have HB := Below.refl w.heap.size w
  have key : ∀ o1 o2 : Bool, (r.V == 1) = o1 → (r.Kind == 1) = o2 → Calls Tryd.prog 81 #[.agg (r.cells A c), .int .i64 10] w fun e w' => e = .returned (.int .i64 (r.bound 10)) ∧ Below w.heap.size w w' := by
    intro o1 o2 h1 h2
    have Ht := Lib.hid ht
    clear ht
    cases o1 <;> cases o2
    all_goals
      go_enter Tryd.func81, Tryd.ntmps81
      go_wp2_with (first
        | ((with_reducible refine gate_dst (N := 2) rfl ?_); refine ev_box rfl rfl (r.cells A c) rfl ?_; intro g1 W1 hg1 hsz hbn; have hgr := grown_of_below hbn; have zg1 : w.heap.size ≤ g1 := (by have := HB.size; omega); replace HB := HB.grown hgr (by have := HB.size; omega) (by simp); have hcg1 := hg1.cell; have hfg1 := hg1.frozen; clear hsz hbn hgr)
        | (go_at_call 95; (with_reducible refine (refLabel_calls _ hs _ (Ht.out.next HB)).mono ?_); rintro e W2 ⟨rfl, hb⟩; have hgr := grown_of_below hb; replace hg1 := hg1.grown hgr (by simp); replace HB := HB.grown hgr (by have := HB.size; omega) (by simp); replace hcg1 := hg1.cell; replace hfg1 := hg1.frozen; clear hb hgr))
      go_ret
      exact ⟨rfl, HB⟩
  exact key _ _ rfl rfl
set_option maxRecDepth 100000 in
theorem refBound11_calls (r : Rec) (A : Option Addr) (c : Nat) (w : World) (ht : Tab w 4 (letCells .i64)) (hd : RB w A r.Data) :
    Calls Tryd.prog 81 #[.agg (r.cells A c), .int .i64 11] w fun e w' => e = .returned (.int .i64 (r.bound 11)) ∧ Below w.heap.size w w' := by
  have HB := Below.refl w.heap.size w
  have key : ∀ o1 o2 : Bool, (r.V == 1) = o1 → (r.Kind == 1) = o2 → Calls Tryd.prog 81 #[.agg (r.cells A c), .int .i64 11] w fun e w' => e = .returned (.int .i64 (r.bound 11)) ∧ Below w.heap.size w w' := by
    intro o1 o2 h1 h2
    have e : r.bound 11 = if 16384 < r.Data.length then 36 else if (o1 && o2) then labelE ⟨r.Data.toArray⟩ else 0 := by rw [← h1, ← h2]; rfl
    rw [e]
    clear e
    have Ht := Lib.hid ht
    clear ht
    by_cases hl : 16384 < r.Data.length
    · have t1 : decide (16384 < (r.Data.length : Int)) = true := by simp; omega
      rw [if_pos hl]
      clear hl
      cases o1 <;> cases o2
      all_goals
        go_enter Tryd.func81, Tryd.ntmps81
        go_wp2_with (first
          | ((with_reducible refine gate_dst (N := 2) rfl ?_); refine ev_box rfl rfl (r.cells A c) rfl ?_; intro g1 W1 hg1 hsz hbn; have hgr := grown_of_below hbn; have zg1 : w.heap.size ≤ g1 := (by have := HB.size; omega); replace HB := HB.grown hgr (by have := HB.size; omega) (by simp); have hcg1 := hg1.cell; have hfg1 := hg1.frozen; clear hsz hbn hgr))
        go_ret
        exact ⟨rfl, HB⟩
    · have t1 : decide (16384 < (r.Data.length : Int)) = false := by simp; omega
      have hz : (⟨r.Data.toArray⟩ : ByteArray).size ≤ 1099511627776 := by
        show r.Data.toArray.size ≤ _
        simp
        omega
      rw [if_neg hl]
      clear hl
      cases o1 <;> cases o2
      all_goals
        go_enter Tryd.func81, Tryd.ntmps81
        go_wp2_with (first
          | ((with_reducible refine gate_dst (N := 2) rfl ?_); refine ev_box rfl rfl (r.cells A c) rfl ?_; intro g1 W1 hg1 hsz hbn; have hgr := grown_of_below hbn; have zg1 : w.heap.size ≤ g1 := (by have := HB.size; omega); replace HB := HB.grown hgr (by have := HB.size; omega) (by simp); have hcg1 := hg1.cell; have hfg1 := hg1.frozen; clear hsz hbn hgr; have cv := conv_bytes (hd.next HB) c)
          | (go_at_call 95; (with_reducible refine (refLabel_calls _ hz _ (Ht.out.next HB)).mono ?_); rintro e W2 ⟨rfl, hb⟩; have hgr := grown_of_below hb; replace hg1 := hg1.grown hgr (by simp); replace HB := HB.grown hgr (by have := HB.size; omega) (by simp); replace hcg1 := hg1.cell; replace hfg1 := hg1.frozen; clear hb hgr))
        go_ret
        exact ⟨rfl, HB⟩
  exact key _ _ rfl rfl
theorem refBounds_calls (r : Rec) (A : Option Addr) (c t : Nat) (h3 : 3 ≤ t) (h11 : t ≤ 11) (hs : r.Name.size ≤ 1099511627776) (w : World) (ht : Tab w 4 (letCells .i64)) (hd : RB w A r.Data) :
    Calls Tryd.prog 81 #[.agg (r.cells A c), .int .i64 t] w fun e w' => e = .returned (.int .i64 (r.bound t)) ∧ Below w.heap.size w w' := by
  obtain rfl | rfl | rfl | rfl | rfl | rfl | rfl | rfl | rfl : t = 3 ∨ t = 4 ∨ t = 5 ∨ t = 6 ∨ t = 7 ∨ t = 8 ∨ t = 9 ∨ t = 10 ∨ t = 11 := by omega
  · exact refBound3_calls r A c w
  · exact refBound4_calls r A c w
  · exact refBound5_calls r A c w
  · exact refBound6_calls r A c w
  · exact refBound7_calls r A c w
  · exact refBound8_calls r A c w
  · exact refBound9_calls r A c w
  · exact refBound10_calls r A c hs w ht
  · exact refBound11_calls r A c w ht hd
end Go.Proofs.YtikodgaomhmbmaaDoor
