/-
  The walk of lift.empty; lift.turned for all ways; lift.Down.
-/
import Derived.Test.YtjhiohjpkdjkoaaDoorDP
import Derived.Test.YtjhiohjpkdjkoaaDoorD3
set_option linter.unusedVariables false
set_option linter.unusedSimpArgs false
namespace Go.Proofs.YtjhiohjpkdjkoaaDoor
open Go.RowKit
attribute [local go_sem] Rec.size_ Rec.g0 Rec.g1 Rec.g2 Rec.g3 Rec.g4 Rec.g5 Rec.g6 Rec.g7 Rec.g8 Rec.g9 Rec.g10 Rec.g11 Rec.fold

set_option maxHeartbeats 1000000 in
set_option maxRecDepth 100000 in
theorem empty_calls (r : Rec) (A : Option Addr) (c : Nat) (w : World) (hd : RU w A r.Data) : HopSaid Tryd.prog 127 (emptyR r) (emptyF r) r A c w := by
  unfold HopSaid
  have HB := Below.refl w.heap.size w
  by_cases k0 : r.At = 0
  case neg =>
    have e1 : emptyR r = r := if_pos k0
    have e2 : emptyF r = false := if_pos k0
    rw [e1, e2]
    have t0 := int_bne_true k0
    clear e1 e2 k0
    go_enter Tryd.func127, Tryd.ntmps127
    go_wp2_with (first
      | ((with_reducible refine gate_dst (N := 1) rfl ?_); refine ev_box rfl rfl (r.cells A c) rfl ?_; intro g1 W1 hg1 hsz hbn; have hgr := grown_of_below hbn; have zg1 : w.heap.size ≤ g1 := (by have := HB.size; omega); replace HB := HB.grown hgr (by have := HB.size; omega) (by simp); have hcg1 := hg1.cell; have hfg1 := hg1.frozen; clear hsz hbn hgr)
      | ((with_reducible refine gate_dst (N := 2) rfl ?_); refine ev_alloc rfl rfl _ rec_zero ?_; intro g2 W2 hg2 hsz hbn; have hgr := grown_of_below hbn; have ng1g2 : g1 ≠ g2 := (by have := hg1.lt; omega); replace hg2 : Blk W2 g2 _ (Rec.zero.cells none 0) := hg2; have zg2 : w.heap.size ≤ g2 := (by have := HB.size; omega); replace hg1 := hg1.grown hgr (by simp); replace HB := HB.grown hgr (by have := HB.size; omega) (by simp); have hcg2 := hg2.cell; have hfg2 := hg2.frozen; replace hcg1 := hg1.cell; replace hfg1 := hg1.frozen; clear hsz hbn hgr)
      | ((with_reducible refine gate_dst (N := 8) rfl ?_); refine wpList_load_row rfl _ _ rfl g1 rfl _ _ (0, 0) _ hg1 Tryd.underlying35 rfl rec_size ?_)
      | ((with_reducible refine gate_store (p := 2) rfl ?_); refine ev_store_row (cs := r.cells A c) rfl rfl rfl hg2 rfl rfl rec_size rfl (cells_one _ _ _) ?_; intro W3 hgn hgr; replace hg1 := hg1.grown hgr (by intro e; injection e with e; omega); replace HB := HB.grown hgr (by have := HB.size; omega) (by intro k e; injection e with e; omega); replace hg2 := hgn; replace hcg1 := hg1.cell; replace hfg1 := hg1.frozen; replace hcg2 := hg2.cell; replace hfg2 := hg2.frozen; clear hgn hgr))
    refine ret_row rfl hg2 rfl Tryd.underlying35 rfl rec_size rfl ?_
    exact ⟨A, c, rfl, hd.next HB, HB⟩
  have t0 := int_bne_false k0
  have n0 : ¬ r.At ≠ 0 := by simp [k0]
  by_cases k1 : r.Kind = 1
  · have e1 : emptyR r = { r with Data := r.Name.data.toList, Name := ⟨#[]⟩, Step := r.Count, Count := 0 } := by unfold emptyR; rw [if_neg n0, if_pos k1]
    have e2 : emptyF r = decide (r.Data.length = 0) := by unfold emptyF; rw [if_neg n0, if_pos k1]
    rw [e1, e2, ← len_zero]
    have t1 := int_beq_true k1
    clear k1 e1 e2 k0 n0
    generalize hb0 : ((r.Data.length : Int) == 0) = b0
    go_enter Tryd.func127, Tryd.ntmps127
    go_wp2_with (first
      | ((with_reducible refine gate_dst (N := 1) rfl ?_); refine ev_box rfl rfl (r.cells A c) rfl ?_; intro g1 W1 hg1 hsz hbn; have hgr := grown_of_below hbn; have zg1 : w.heap.size ≤ g1 := (by have := HB.size; omega); replace HB := HB.grown hgr (by have := HB.size; omega) (by simp); have hcg1 := hg1.cell; have hfg1 := hg1.frozen; clear hsz hbn hgr)
      | ((with_reducible refine gate_dst (N := 2) rfl ?_); refine ev_alloc rfl rfl _ rec_zero ?_; intro g2 W2 hg2 hsz hbn; have hgr := grown_of_below hbn; have ng1g2 : g1 ≠ g2 := (by have := hg1.lt; omega); replace hg2 : Blk W2 g2 _ (Rec.zero.cells none 0) := hg2; have zg2 : w.heap.size ≤ g2 := (by have := HB.size; omega); replace hg1 := hg1.grown hgr (by simp); replace HB := HB.grown hgr (by have := HB.size; omega) (by simp); have hcg2 := hg2.cell; have hfg2 := hg2.frozen; replace hcg1 := hg1.cell; replace hfg1 := hg1.frozen; clear hsz hbn hgr)
      | ((with_reducible refine gate_dst (N := 19) rfl ?_); refine ev_bytes rfl rfl Tryd.underlying9 Tryd.underlying33 Tryd.underlying5 rfl ?_; intro A5 c5 W3 hd5 hb; have hgr := grown_of_below hb; replace hg1 := hg1.grown hgr (by simp); replace hg2 := hg2.grown hgr (by simp); replace HB := HB.grown hgr (by have := HB.size; omega) (by simp); replace hcg1 := hg1.cell; replace hfg1 := hg1.frozen; replace hcg2 := hg2.cell; replace hfg2 := hg2.frozen; clear hb hgr)
      | ((with_reducible refine gate_store (p := 20) rfl ?_); refine ev_store_cell rfl rfl rfl hg1 rfl (i := 11) (v := .slice A5 r.Name.data.toList.length c5) rfl rfl (by kernel_rfl) (show (11 : Nat) < 12 by decide) ?_; intro W3 hgn hgr; replace hgn : Blk W3 g1 _ (({ r with Data := r.Name.data.toList } : Rec).cells A5 c5) := hgn; replace hd5 := hd5.kept hgr (RU.ne_blk hd5 hg1 (by decide)); replace hg2 := hg2.grown hgr (by intro e; injection e with e; omega); replace HB := HB.grown hgr (by have := HB.size; omega) (by intro k e; injection e with e; omega); replace hg1 := hgn; replace hcg1 := hg1.cell; replace hfg1 := hg1.frozen; replace hcg2 := hg2.cell; replace hfg2 := hg2.frozen; clear hgn hgr)
      | ((with_reducible refine gate_store (p := 21) rfl ?_); refine ev_store_cell rfl rfl rfl hg1 rfl (i := 10) (v := .string ⟨#[]⟩) rfl rfl (by kernel_rfl) (show (10 : Nat) < 12 by decide) ?_; intro W4 hgn hgr; replace hgn : Blk W4 g1 _ (({ r with Data := r.Name.data.toList, Name := ⟨#[]⟩ } : Rec).cells A5 c5) := hgn; replace hd5 := hd5.kept hgr (RU.ne_blk hd5 hg1 (by decide)); replace hg2 := hg2.grown hgr (by intro e; injection e with e; omega); replace HB := HB.grown hgr (by have := HB.size; omega) (by intro k e; injection e with e; omega); replace hg1 := hgn; replace hcg1 := hg1.cell; replace hfg1 := hg1.frozen; replace hcg2 := hg2.cell; replace hfg2 := hg2.frozen; clear hgn hgr)
      | ((with_reducible refine gate_store (p := 24) rfl ?_); refine ev_store_cell rfl rfl rfl hg1 rfl (i := 3) (v := .int .i64 r.Count) rfl rfl (by kernel_rfl) (show (3 : Nat) < 12 by decide) ?_; intro W5 hgn hgr; replace hgn : Blk W5 g1 _ (({ r with Data := r.Name.data.toList, Name := ⟨#[]⟩, Step := r.Count } : Rec).cells A5 c5) := hgn; replace hd5 := hd5.kept hgr (RU.ne_blk hd5 hg1 (by decide)); replace hg2 := hg2.grown hgr (by intro e; injection e with e; omega); replace HB := HB.grown hgr (by have := HB.size; omega) (by intro k e; injection e with e; omega); replace hg1 := hgn; replace hcg1 := hg1.cell; replace hfg1 := hg1.frozen; replace hcg2 := hg2.cell; replace hfg2 := hg2.frozen; clear hgn hgr)
      | ((with_reducible refine gate_store (p := 25) rfl ?_); refine ev_store_cell rfl rfl rfl hg1 rfl (i := 8) (v := .int .i64 0) rfl rfl (by kernel_rfl) (show (8 : Nat) < 12 by decide) ?_; intro W6 hgn hgr; replace hgn : Blk W6 g1 _ (({ r with Data := r.Name.data.toList, Name := ⟨#[]⟩, Step := r.Count, Count := 0 } : Rec).cells A5 c5) := hgn; replace hd5 := hd5.kept hgr (RU.ne_blk hd5 hg1 (by decide)); replace hg2 := hg2.grown hgr (by intro e; injection e with e; omega); replace HB := HB.grown hgr (by have := HB.size; omega) (by intro k e; injection e with e; omega); replace hg1 := hgn; replace hcg1 := hg1.cell; replace hfg1 := hg1.frozen; replace hcg2 := hg2.cell; replace hfg2 := hg2.frozen; clear hgn hgr)
      | ((with_reducible refine gate_dst (N := 39) rfl ?_); refine wpList_load_row rfl _ _ rfl g1 rfl _ _ (0, 0) _ hg1 Tryd.underlying35 rfl rec_size ?_)
      | ((with_reducible refine gate_store (p := 2) rfl ?_); refine ev_store_row (cs := ({ r with Data := r.Name.data.toList, Name := ⟨#[]⟩, Step := r.Count, Count := 0 } : Rec).cells A5 c5) rfl rfl rfl hg2 rfl rfl rec_size rfl (cells_one _ _ _) ?_; intro W7 hgn hgr; replace hd5 := hd5.kept hgr (RU.ne_blk hd5 hg2 (by decide)); replace hg1 := hg1.grown hgr (by intro e; injection e with e; omega); replace HB := HB.grown hgr (by have := HB.size; omega) (by intro k e; injection e with e; omega); replace hg2 := hgn; replace hcg1 := hg1.cell; replace hfg1 := hg1.frozen; replace hcg2 := hg2.cell; replace hfg2 := hg2.frozen; clear hgn hgr))
    refine ret_row rfl hg2 rfl Tryd.underlying35 rfl rec_size rfl ?_
    exact ⟨A5, c5, rfl, hd5, HB⟩
  have t1 := int_beq_false k1
  by_cases k2 : r.Kind = 2 ∨ r.Kind = 5
  · have e1 : emptyR r = { r with Try := 0 } := by unfold emptyR; rw [if_neg n0, if_neg k1, if_pos k2]
    have e2 : emptyF r = (r.Try == 1) := by unfold emptyF; rw [if_neg n0, if_neg k1, if_pos k2]
    rw [e1, e2]
    clear e1 e2 k0 n0
    generalize hb0 : (r.Try == 1) = b0
    rcases k2 with k2 | k2
    · have t2 := int_beq_true k2
      clear k1 k2
      go_enter Tryd.func127, Tryd.ntmps127
      go_wp2_with (first
        | ((with_reducible refine gate_dst (N := 1) rfl ?_); refine ev_box rfl rfl (r.cells A c) rfl ?_; intro g1 W1 hg1 hsz hbn; have hgr := grown_of_below hbn; have zg1 : w.heap.size ≤ g1 := (by have := HB.size; omega); replace HB := HB.grown hgr (by have := HB.size; omega) (by simp); have hcg1 := hg1.cell; have hfg1 := hg1.frozen; clear hsz hbn hgr)
        | ((with_reducible refine gate_dst (N := 2) rfl ?_); refine ev_alloc rfl rfl _ rec_zero ?_; intro g2 W2 hg2 hsz hbn; have hgr := grown_of_below hbn; have ng1g2 : g1 ≠ g2 := (by have := hg1.lt; omega); replace hg2 : Blk W2 g2 _ (Rec.zero.cells none 0) := hg2; have zg2 : w.heap.size ≤ g2 := (by have := HB.size; omega); replace hg1 := hg1.grown hgr (by simp); replace HB := HB.grown hgr (by have := HB.size; omega) (by simp); have hcg2 := hg2.cell; have hfg2 := hg2.frozen; replace hcg1 := hg1.cell; replace hfg1 := hg1.frozen; clear hsz hbn hgr)
        | ((with_reducible refine gate_store (p := 32) rfl ?_); refine ev_store_cell rfl rfl rfl hg1 rfl (i := 4) (v := .int .i64 0) rfl rfl (by kernel_rfl) (show (4 : Nat) < 12 by decide) ?_; intro W3 hgn hgr; replace hgn : Blk W3 g1 _ (({ r with Try := 0 } : Rec).cells A c) := hgn; replace hg2 := hg2.grown hgr (by intro e; injection e with e; omega); replace HB := HB.grown hgr (by have := HB.size; omega) (by intro k e; injection e with e; omega); replace hg1 := hgn; replace hcg1 := hg1.cell; replace hfg1 := hg1.frozen; replace hcg2 := hg2.cell; replace hfg2 := hg2.frozen; clear hgn hgr)
        | ((with_reducible refine gate_dst (N := 39) rfl ?_); refine wpList_load_row rfl _ _ rfl g1 rfl _ _ (0, 0) _ hg1 Tryd.underlying35 rfl rec_size ?_)
        | ((with_reducible refine gate_store (p := 2) rfl ?_); refine ev_store_row (cs := ({ r with Try := 0 } : Rec).cells A c) rfl rfl rfl hg2 rfl rfl rec_size rfl (cells_one _ _ _) ?_; intro W4 hgn hgr; replace hg1 := hg1.grown hgr (by intro e; injection e with e; omega); replace HB := HB.grown hgr (by have := HB.size; omega) (by intro k e; injection e with e; omega); replace hg2 := hgn; replace hcg1 := hg1.cell; replace hfg1 := hg1.frozen; replace hcg2 := hg2.cell; replace hfg2 := hg2.frozen; clear hgn hgr))
      refine ret_row rfl hg2 rfl Tryd.underlying35 rfl rec_size rfl ?_
      exact ⟨A, c, rfl, hd.next HB, HB⟩
    · have t2 : (r.Kind == 2) = false := int_beq_false (by omega)
      have t3 := int_beq_true k2
      clear k1 k2
      go_enter Tryd.func127, Tryd.ntmps127
      go_wp2_with (first
        | ((with_reducible refine gate_dst (N := 1) rfl ?_); refine ev_box rfl rfl (r.cells A c) rfl ?_; intro g1 W1 hg1 hsz hbn; have hgr := grown_of_below hbn; have zg1 : w.heap.size ≤ g1 := (by have := HB.size; omega); replace HB := HB.grown hgr (by have := HB.size; omega) (by simp); have hcg1 := hg1.cell; have hfg1 := hg1.frozen; clear hsz hbn hgr)
        | ((with_reducible refine gate_dst (N := 2) rfl ?_); refine ev_alloc rfl rfl _ rec_zero ?_; intro g2 W2 hg2 hsz hbn; have hgr := grown_of_below hbn; have ng1g2 : g1 ≠ g2 := (by have := hg1.lt; omega); replace hg2 : Blk W2 g2 _ (Rec.zero.cells none 0) := hg2; have zg2 : w.heap.size ≤ g2 := (by have := HB.size; omega); replace hg1 := hg1.grown hgr (by simp); replace HB := HB.grown hgr (by have := HB.size; omega) (by simp); have hcg2 := hg2.cell; have hfg2 := hg2.frozen; replace hcg1 := hg1.cell; replace hfg1 := hg1.frozen; clear hsz hbn hgr)
        | ((with_reducible refine gate_store (p := 32) rfl ?_); refine ev_store_cell rfl rfl rfl hg1 rfl (i := 4) (v := .int .i64 0) rfl rfl (by kernel_rfl) (show (4 : Nat) < 12 by decide) ?_; intro W3 hgn hgr; replace hgn : Blk W3 g1 _ (({ r with Try := 0 } : Rec).cells A c) := hgn; replace hg2 := hg2.grown hgr (by intro e; injection e with e; omega); replace HB := HB.grown hgr (by have := HB.size; omega) (by intro k e; injection e with e; omega); replace hg1 := hgn; replace hcg1 := hg1.cell; replace hfg1 := hg1.frozen; replace hcg2 := hg2.cell; replace hfg2 := hg2.frozen; clear hgn hgr)
        | ((with_reducible refine gate_dst (N := 39) rfl ?_); refine wpList_load_row rfl _ _ rfl g1 rfl _ _ (0, 0) _ hg1 Tryd.underlying35 rfl rec_size ?_)
        | ((with_reducible refine gate_store (p := 2) rfl ?_); refine ev_store_row (cs := ({ r with Try := 0 } : Rec).cells A c) rfl rfl rfl hg2 rfl rfl rec_size rfl (cells_one _ _ _) ?_; intro W4 hgn hgr; replace hg1 := hg1.grown hgr (by intro e; injection e with e; omega); replace HB := HB.grown hgr (by have := HB.size; omega) (by intro k e; injection e with e; omega); replace hg2 := hgn; replace hcg1 := hg1.cell; replace hfg1 := hg1.frozen; replace hcg2 := hg2.cell; replace hfg2 := hg2.frozen; clear hgn hgr))
      refine ret_row rfl hg2 rfl Tryd.underlying35 rfl rec_size rfl ?_
      exact ⟨A, c, rfl, hd.next HB, HB⟩
  have t2 : (r.Kind == 2) = false := int_beq_false (by omega)
  have t3 : (r.Kind == 5) = false := int_beq_false (by omega)
  by_cases k4 : r.Kind = 4
  · have e1 : emptyR r = { r with Last := 0 } := by unfold emptyR; rw [if_neg n0, if_neg k1, if_neg k2, if_pos k4]
    have e2 : emptyF r = (r.Last == 1) := by unfold emptyF; rw [if_neg n0, if_neg k1, if_neg k2, if_pos k4]
    rw [e1, e2]
    have t4 := int_beq_true k4
    clear k1 k2 k4 e1 e2 k0 n0
    generalize hb0 : (r.Last == 1) = b0
    go_enter Tryd.func127, Tryd.ntmps127
    go_wp2_with (first
      | ((with_reducible refine gate_dst (N := 1) rfl ?_); refine ev_box rfl rfl (r.cells A c) rfl ?_; intro g1 W1 hg1 hsz hbn; have hgr := grown_of_below hbn; have zg1 : w.heap.size ≤ g1 := (by have := HB.size; omega); replace HB := HB.grown hgr (by have := HB.size; omega) (by simp); have hcg1 := hg1.cell; have hfg1 := hg1.frozen; clear hsz hbn hgr)
      | ((with_reducible refine gate_dst (N := 2) rfl ?_); refine ev_alloc rfl rfl _ rec_zero ?_; intro g2 W2 hg2 hsz hbn; have hgr := grown_of_below hbn; have ng1g2 : g1 ≠ g2 := (by have := hg1.lt; omega); replace hg2 : Blk W2 g2 _ (Rec.zero.cells none 0) := hg2; have zg2 : w.heap.size ≤ g2 := (by have := HB.size; omega); replace hg1 := hg1.grown hgr (by simp); replace HB := HB.grown hgr (by have := HB.size; omega) (by simp); have hcg2 := hg2.cell; have hfg2 := hg2.frozen; replace hcg1 := hg1.cell; replace hfg1 := hg1.frozen; clear hsz hbn hgr)
      | ((with_reducible refine gate_store (p := 38) rfl ?_); refine ev_store_cell rfl rfl rfl hg1 rfl (i := 6) (v := .int .i64 0) rfl rfl (by kernel_rfl) (show (6 : Nat) < 12 by decide) ?_; intro W3 hgn hgr; replace hgn : Blk W3 g1 _ (({ r with Last := 0 } : Rec).cells A c) := hgn; replace hg2 := hg2.grown hgr (by intro e; injection e with e; omega); replace HB := HB.grown hgr (by have := HB.size; omega) (by intro k e; injection e with e; omega); replace hg1 := hgn; replace hcg1 := hg1.cell; replace hfg1 := hg1.frozen; replace hcg2 := hg2.cell; replace hfg2 := hg2.frozen; clear hgn hgr)
      | ((with_reducible refine gate_dst (N := 39) rfl ?_); refine wpList_load_row rfl _ _ rfl g1 rfl _ _ (0, 0) _ hg1 Tryd.underlying35 rfl rec_size ?_)
      | ((with_reducible refine gate_store (p := 2) rfl ?_); refine ev_store_row (cs := ({ r with Last := 0 } : Rec).cells A c) rfl rfl rfl hg2 rfl rfl rec_size rfl (cells_one _ _ _) ?_; intro W4 hgn hgr; replace hg1 := hg1.grown hgr (by intro e; injection e with e; omega); replace HB := HB.grown hgr (by have := HB.size; omega) (by intro k e; injection e with e; omega); replace hg2 := hgn; replace hcg1 := hg1.cell; replace hfg1 := hg1.frozen; replace hcg2 := hg2.cell; replace hfg2 := hg2.frozen; clear hgn hgr))
    refine ret_row rfl hg2 rfl Tryd.underlying35 rfl rec_size rfl ?_
    exact ⟨A, c, rfl, hd.next HB, HB⟩
  · have e1 : emptyR r = r := by unfold emptyR; rw [if_neg n0, if_neg k1, if_neg k2, if_neg k4]
    have e2 : emptyF r = true := by unfold emptyF; rw [if_neg n0, if_neg k1, if_neg k2, if_neg k4]
    rw [e1, e2]
    have t4 := int_beq_false k4
    clear k1 k2 k4 e1 e2 k0 n0
    go_enter Tryd.func127, Tryd.ntmps127
    go_wp2_with (first
      | ((with_reducible refine gate_dst (N := 1) rfl ?_); refine ev_box rfl rfl (r.cells A c) rfl ?_; intro g1 W1 hg1 hsz hbn; have hgr := grown_of_below hbn; have zg1 : w.heap.size ≤ g1 := (by have := HB.size; omega); replace HB := HB.grown hgr (by have := HB.size; omega) (by simp); have hcg1 := hg1.cell; have hfg1 := hg1.frozen; clear hsz hbn hgr)
      | ((with_reducible refine gate_dst (N := 2) rfl ?_); refine ev_alloc rfl rfl _ rec_zero ?_; intro g2 W2 hg2 hsz hbn; have hgr := grown_of_below hbn; have ng1g2 : g1 ≠ g2 := (by have := hg1.lt; omega); replace hg2 : Blk W2 g2 _ (Rec.zero.cells none 0) := hg2; have zg2 : w.heap.size ≤ g2 := (by have := HB.size; omega); replace hg1 := hg1.grown hgr (by simp); replace HB := HB.grown hgr (by have := HB.size; omega) (by simp); have hcg2 := hg2.cell; have hfg2 := hg2.frozen; replace hcg1 := hg1.cell; replace hfg1 := hg1.frozen; clear hsz hbn hgr)
      | ((with_reducible refine gate_dst (N := 39) rfl ?_); refine wpList_load_row rfl _ _ rfl g1 rfl _ _ (0, 0) _ hg1 Tryd.underlying35 rfl rec_size ?_)
      | ((with_reducible refine gate_store (p := 2) rfl ?_); refine ev_store_row (cs := r.cells A c) rfl rfl rfl hg2 rfl rfl rec_size rfl (cells_one _ _ _) ?_; intro W3 hgn hgr; replace hg1 := hg1.grown hgr (by intro e; injection e with e; omega); replace HB := HB.grown hgr (by have := HB.size; omega) (by intro k e; injection e with e; omega); replace hg2 := hgn; replace hcg1 := hg1.cell; replace hfg1 := hg1.frozen; replace hcg2 := hg2.cell; replace hfg2 := hg2.frozen; clear hgn hgr))
    refine ret_row rfl hg2 rfl Tryd.underlying35 rfl rec_size rfl ?_
    exact ⟨A, c, rfl, hd.next HB, HB⟩

theorem hops_all (to : Int) : HopsTo to (fun _ => True) := by
  intro a q A c w _ hv hne hf hd
  obtain rfl | rfl | rfl := hv
  · exact fill_calls q A c w hd
  · by_cases h1 : to = 1
    · have e1 : hopFn 2 to = 127 := by unfold hopFn; rw [if_neg (by decide), if_neg (by decide), if_pos h1]
      have e2 : hopR 2 to q = emptyR q := by unfold hopR; rw [if_neg (by decide), if_neg (by decide), if_pos h1]
      have e3 : hopF 2 to q = emptyF q := by unfold hopF; rw [if_neg (by decide), if_neg (by decide), if_pos h1]
      rw [e1, e2, e3]
      exact empty_calls q A c w hd
    · have e1 : hopFn 2 to = 109 := by unfold hopFn; rw [if_neg (by decide), if_neg (by decide), if_neg h1]
      have e2 : hopR 2 to q = q := by unfold hopR; rw [if_neg (by decide), if_neg (by decide), if_neg h1]
      have e3 : hopF 2 to q = true := by unfold hopF; rw [if_neg (by decide), if_neg (by decide), if_neg h1]
      rw [e1, e2, e3]
      exact stay_calls q A c w hd
  · exact plain_calls q A c w hd
theorem turned_calls (to : Int) (hto : Ver to) (r : Rec) (A : Option Addr) (c : Nat) (hf : r.Fits) (hr : Ver r.V) (w : World) (ht : Tab w 2 waysL) (hd : RB w A r.Data) :
    Calls Tryd.prog 88 #[.agg (r.cells A c), .int .i64 to] w fun e w' => ∃ A' c', e = .returned (.tuple #[.agg ((turnR r to).cells A' c'), .bool (turnF r to)]) ∧ RU w' A' (turnR r to).Data ∧ Below w.heap.size w w' :=
  turnedBy_calls to hto (fun _ => True) (hops_all to) (fun _ _ _ _ => trivial) r A c hf hr trivial w ht hd
end Go.Proofs.YtjhiohjpkdjkoaaDoor
