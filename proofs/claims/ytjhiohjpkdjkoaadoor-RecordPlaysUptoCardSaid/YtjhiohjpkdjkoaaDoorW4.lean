/-
  record.Decode of those bytes; annalslaw3.started.
-/
import Derived.Test.YtjhiohjpkdjkoaaDoorW3
import Derived.Test.YtjhiohjpkdjkoaaDoorD1
set_option linter.unusedVariables false
set_option linter.unusedSimpArgs false
namespace Go.Proofs.YtjhiohjpkdjkoaaDoor
open Go.RowKit
attribute [local go_sem] Rec.size_ Rec.g0 Rec.g1 Rec.g2 Rec.g3 Rec.g4 Rec.g5 Rec.g6 Rec.g7 Rec.g8 Rec.g9 Rec.g10 Rec.g11 Rec.fold Rec.same_self

def endC0 : Rec := { Rec.zero with V := 1 }
def endC1 : Rec := { Rec.zero with V := 1, Kind := 7 }
set_option maxHeartbeats 1000000 in
set_option maxRecDepth 100000 in
theorem value_1 (g g0 : Nat) (w : World) (hg : Blk w g 35 (endC0.cells none 0)) (hg0 : Blk w g0 5 fourB) :
    Calls Tryd.prog 96 #[.pointer (some ⟨g, 0, none⟩), .int .i64 1, .slice (some ⟨g0, 0, none⟩) 4 4, .int .i64 1] w fun e w' => e = .returned (.tuple #[.int .i64 2, .int .i64 0]) ∧ Blk w' g 35 (endC1.cells none 0) ∧ w.grownBy w' (some g) := by
  have hcg := hg.cell
  have hfg := hg.frozen
  go_enter Tryd.func96, Tryd.ntmps96
  go_wp2_with (first
    | (go_at_call 95; (with_reducible refine (read_1 g0 _ hg0).mono ?_); rintro e w1 ⟨rfl, rfl⟩)
    | (go_at_call 90; (with_reducible refine (num1_calls g _).mono ?_); rintro e w1 ⟨rfl, rfl⟩)
    | ((with_reducible refine gate_store (p := 86) rfl ?_); refine ev_store_cell rfl rfl rfl hg rfl (i := 1) (v := .int .i64 7) rfl rfl (by kernel_rfl) (show (1 : Nat) < 12 by decide) ?_; intro W1 hgn hgr; replace hgn : Blk W1 g _ (endC1.cells none 0) := hgn; clear hg hcg hfg))
  go_ret2
  exact ⟨rfl, hgn, hgr⟩
set_option maxHeartbeats 1000000 in
set_option maxRecDepth 100000 in
theorem value_2 (g g0 : Nat) (w : World) (hg : Blk w g 35 (endC1.cells none 0)) (hg0 : Blk w g0 5 fourB) :
    Calls Tryd.prog 96 #[.pointer (some ⟨g, 0, none⟩), .int .i64 2, .slice (some ⟨g0, 0, none⟩) 4 4, .int .i64 3] w fun e w' => e = .returned (.tuple #[.int .i64 4, .int .i64 0]) ∧ Blk w' g 35 (endC.cells none 0) ∧ w.grownBy w' (some g) := by
  have hcg := hg.cell
  have hfg := hg.frozen
  go_enter Tryd.func96, Tryd.ntmps96
  go_wp2_with (first
    | (go_at_call 95; (with_reducible refine (read_3 g0 _ hg0).mono ?_); rintro e w1 ⟨rfl, rfl⟩)
    | (go_at_call 90; (with_reducible refine (num2_calls g _).mono ?_); rintro e w1 ⟨rfl, rfl⟩)
    | ((with_reducible refine gate_store (p := 86) rfl ?_); refine ev_store_cell rfl rfl rfl hg rfl (i := 2) (v := .int .i64 1) rfl rfl (by kernel_rfl) (show (2 : Nat) < 12 by decide) ?_; intro W1 hgn hgr; replace hgn : Blk W1 g _ (endC.cells none 0) := hgn; clear hg hcg hfg))
  go_ret2
  exact ⟨rfl, hgn, hgr⟩

set_option maxHeartbeats 4000000 in
set_option maxRecDepth 100000 in
theorem decode_end (g0 : Nat) (w : World) (hT : Tabs w) (hg0 : Blk w g0 5 fourB) :
    Calls Tryd.prog 52 #[.int .i64 1, .slice (some ⟨g0, 0, none⟩) 4 4] w fun e w' => e = .returned (.tuple #[.agg (endC.cells none 0), .int .i64 0]) ∧ Below w.heap.size w w' := by
  have HB := Below.refl w.heap.size w
  have HT := Lib.hid hT
  have hlt0 := hg0.lt
  have m1 : True := trivial
  have m2 : True := trivial
  have hw1 : IntKind.i64.wrap 1 = 1 := by rfl
  have hw2 : IntKind.i64.wrap 2 = 2 := by rfl
  clear hT
  go_enter Tryd.func52, Tryd.ntmps52
  go_wp2_with (first
    | ((with_reducible refine gate_dst (N := 4) rfl ?_); refine ev_alloc rfl rfl _ rec_zero ?_; intro g4 W1 hg4 hsz hbn; have hgr := grown_of_below hbn; have ng0g4 : g0 ≠ g4 := (by have := hg0.lt; omega); replace hg4 : Blk W1 g4 _ (Rec.zero.cells none 0) := hg4; have zg4 : w.heap.size ≤ g4 := (by have := HB.size; omega); replace hg0 := hg0.grown hgr (by simp); replace HB := HB.grown hgr (by have := HB.size; omega) (by simp); have hcg4 := hg4.cell; have hfg4 := hg4.frozen; replace hcg0 := hg0.cell; replace hfg0 := hg0.frozen; clear hsz hbn hgr)
    | ((with_reducible refine gate_dst (N := 6) rfl ?_); refine ev_alloc rfl rfl _ rec_zero ?_; intro g6 W2 hg6 hsz hbn; have hgr := grown_of_below hbn; have ng0g6 : g0 ≠ g6 := (by have := hg0.lt; omega); have ng4g6 : g4 ≠ g6 := (by have := hg4.lt; omega); replace hg6 : Blk W2 g6 _ (Rec.zero.cells none 0) := hg6; have zg6 : w.heap.size ≤ g6 := (by have := HB.size; omega); replace hg0 := hg0.grown hgr (by simp); replace hg4 := hg4.grown hgr (by simp); replace HB := HB.grown hgr (by have := HB.size; omega) (by simp); have hcg6 := hg6.cell; have hfg6 := hg6.frozen; replace hcg0 := hg0.cell; replace hfg0 := hg0.frozen; replace hcg4 := hg4.cell; replace hfg4 := hg4.frozen; clear hsz hbn hgr)
    | ((with_reducible refine gate_store (p := 6) rfl ?_); refine ev_store_row (cs := endC0.cells none 0) rfl rfl rfl hg6 rfl rfl rec_size rfl (cells_one _ _ _) ?_; intro W3 hgn hgr; replace hg0 := hg0.grown hgr (by intro e; injection e with e; omega); replace hg4 := hg4.grown hgr (by intro e; injection e with e; omega); replace HB := HB.grown hgr (by have := HB.size; omega) (by intro k e; injection e with e; omega); replace hg6 := hgn; replace hcg0 := hg0.cell; replace hfg0 := hg0.frozen; replace hcg4 := hg4.cell; replace hfg4 := hg4.frozen; replace hcg6 := hg6.cell; replace hfg6 := hg6.frozen; clear hgn hgr))
  refine wp_loop_rounds 3 ?_
  rw [rounds_succ]
  go_wp2_with (first
    | (go_at_call 95; clear m1; (with_reducible refine (read_0 g0 _ hg0).mono ?_); rintro e w1 ⟨rfl, rfl⟩)
    | (go_at_call 96; (with_reducible refine (value_1 g6 g0 _ hg6 hg0).mono ?_); rintro e W4 ⟨rfl, hgn, hgr⟩; replace hg4 := hg4.grown hgr (by intro e; injection e with e; omega); replace hg0 := hg0.grown hgr (by intro e; injection e with e; omega); replace HB := HB.grown hgr (by have := HB.size; omega) (by intro k e; injection e with e; omega); replace hg6 := hgn; replace hcg4 := hg4.cell; replace hfg4 := hg4.frozen; replace hcg6 := hg6.cell; replace hfg6 := hg6.frozen; clear hgn hgr)
    | (go_at_call 97; (with_reducible refine (zero1_calls endC1 none 0 g6 _ hg6).mono ?_); rintro e w1 ⟨rfl, rfl⟩; have hk : (endC1.num 1 == 0) = false := rfl; rw [hk]))
  rw [rounds_succ]
  go_wp2_with (first
    | (go_at_call 95; (with_reducible refine (read_2 g0 _ hg0).mono ?_); rintro e w1 ⟨rfl, rfl⟩)
    | (go_at_call 96; (with_reducible refine (value_2 g6 g0 _ hg6 hg0).mono ?_); rintro e W5 ⟨rfl, hgn, hgr⟩; replace hg4 := hg4.grown hgr (by intro e; injection e with e; omega); replace hg0 := hg0.grown hgr (by intro e; injection e with e; omega); replace HB := HB.grown hgr (by have := HB.size; omega) (by intro k e; injection e with e; omega); replace hg6 := hgn; replace hcg4 := hg4.cell; replace hfg4 := hg4.frozen; replace hcg6 := hg6.cell; replace hfg6 := hg6.frozen; clear hgn hgr)
    | (go_at_call 97; (with_reducible refine (zero2_calls endC none 0 g6 _ hg6).mono ?_); rintro e w1 ⟨rfl, rfl⟩; have hk : (endC.num 2 == 0) = false := rfl; rw [hk]))
  rw [rounds_succ]
  go_wp2_with (first
    | ((with_reducible refine gate_dst (N := 66) rfl ?_); refine wpList_load_row rfl _ _ rfl g6 rfl _ _ (0, 0) _ hg6 Tryd.underlying35 rfl rec_size ?_)
    | (go_at_call 75; (with_reducible refine (endC_check _ (HT.out.next HB)).mono ?_); rintro e W1 ⟨rfl, hb⟩; have hgr := grown_of_below hb; replace hg0 := hg0.grown hgr (by simp); replace hg4 := hg4.grown hgr (by simp); replace hg6 := hg6.grown hgr (by simp); replace HB := HB.grown hgr (by have := HB.size; omega) (by simp); replace hcg0 := hg0.cell; replace hfg0 := hg0.frozen; replace hcg4 := hg4.cell; replace hfg4 := hg4.frozen; replace hcg6 := hg6.cell; replace hfg6 := hg6.frozen; clear hb hgr)
    | ((with_reducible refine gate_dst (N := 72) rfl ?_); refine wpList_load_row rfl _ _ rfl g6 rfl _ _ (0, 0) _ hg6 Tryd.underlying35 rfl rec_size ?_)
    | ((with_reducible refine gate_store (p := 4) rfl ?_); refine ev_store_row (cs := endC.cells none 0) rfl rfl rfl hg4 rfl rfl rec_size rfl (cells_one _ _ _) ?_; intro W2 hgn hgr; replace hg0 := hg0.grown hgr (by intro e; injection e with e; omega); replace hg6 := hg6.grown hgr (by intro e; injection e with e; omega); replace HB := HB.grown hgr (by have := HB.size; omega) (by intro k e; injection e with e; omega); replace hg4 := hgn; replace hcg0 := hg0.cell; replace hfg0 := hg0.frozen; replace hcg4 := hg4.cell; replace hfg4 := hg4.frozen; replace hcg6 := hg6.cell; replace hfg6 := hg6.frozen; clear hgn hgr))
  refine ret_row rfl hg4 rfl Tryd.underlying35 rfl rec_size rfl ?_
  exact ⟨rfl, HB⟩
end Go.Proofs.YtjhiohjpkdjkoaaDoor
