/-
  The walk of annalsref2.piece.
-/
import Derived.Test.YtikodgaomhmbmaaDoorN3
import Derived.LoopN
set_option linter.unusedVariables false
set_option linter.unusedSimpArgs false
namespace Go.Proofs.YtikodgaomhmbmaaDoor
open Go.RowKit

def pieceCells (r : Int) (i n : Nat) : Array Value := #[.int .i64 r, .int .i64 (i : Int), .int .i64 (n : Int)]
theorem piece_zero : (Tryd.prog.info? 149).map (fun i => i.zero) = some (some (.agg #[.int .i64 0, .int .i64 0, .int .i64 0])) := by kernel_rfl
theorem piece_size : (Tryd.prog.info? 149).map (·.size) = some 3 := by kernel_rfl
theorem pieceCells_one (r : Int) (i n : Nat) : (pieceCells r i n).all (·.oneCell') = true := by simp [pieceCells, Value.oneCell']

set_option maxRecDepth 100000 in
theorem piece_ascii (s : ByteArray) (i : Nat) (hi : i < s.size) (hsz : s.size ≤ 140737488351232) (hb : s[i].toNat < 128) (w : World) :
    Calls Tryd.prog 113 #[.string s, .int .i64 i] w fun e w' => e = .returned (.agg (pieceCells s[i].toNat i 1)) ∧ Below w.heap.size w w' := by
  have HB := Below.refl w.heap.size w
  go_enter Tryd.func113, Tryd.ntmps113
  go_wp2_with (first
    | ((with_reducible refine gate_dst (N := 4) rfl ?_); refine ev_alloc rfl rfl _ piece_zero ?_; intro g1 W1 hg1 hsz hbn; have hgr := grown_of_below hbn; replace hg1 : Blk W1 g1 _ (#[.int .i64 0, .int .i64 0, .int .i64 0]) := hg1; have zg1 : w.heap.size ≤ g1 := (by have := HB.size; omega); replace HB := HB.grown hgr (by have := HB.size; omega) (by simp); have hcg1 := hg1.cell; have hfg1 := hg1.frozen; clear hsz hbn hgr)
    | ((with_reducible refine gate_dst (N := 6) rfl ?_); refine ev_alloc rfl rfl _ piece_zero ?_; intro g2 W2 hg2 hsz hbn; have hgr := grown_of_below hbn; have ng1g2 : g1 ≠ g2 := (by have := hg1.lt; omega); replace hg2 : Blk W2 g2 _ (#[.int .i64 0, .int .i64 0, .int .i64 0]) := hg2; have zg2 : w.heap.size ≤ g2 := (by have := HB.size; omega); replace hg1 := hg1.grown hgr (by simp); replace HB := HB.grown hgr (by have := HB.size; omega) (by simp); have hcg2 := hg2.cell; have hfg2 := hg2.frozen; replace hcg1 := hg1.cell; replace hfg1 := hg1.frozen; clear hsz hbn hgr)
    | ((with_reducible refine gate_store (p := 6) rfl ?_); refine ev_store_row (cs := pieceCells (-1) i 1) rfl rfl rfl hg2 rfl rfl piece_size rfl (pieceCells_one _ _ _) ?_; intro W3 hgn hgr; replace hg1 := hg1.grown hgr (by intro e; injection e with e; omega); replace HB := HB.grown hgr (by have := HB.size; omega) (by intro k e; injection e with e; omega); replace hg2 := hgn; replace hcg1 := hg1.cell; replace hfg1 := hg1.frozen; replace hcg2 := hg2.cell; replace hfg2 := hg2.frozen; clear hgn hgr)
    | ((with_reducible refine gate_store (p := 4) rfl ?_); refine ev_store_row (cs := pieceCells s[i].toNat i 1) rfl rfl rfl hg1 rfl rfl piece_size rfl (pieceCells_one _ _ _) ?_; intro W4 hgn hgr; replace hg2 := hg2.grown hgr (by intro e; injection e with e; omega); replace HB := HB.grown hgr (by have := HB.size; omega) (by intro k e; injection e with e; omega); replace hg1 := hgn; replace hcg1 := hg1.cell; replace hfg1 := hg1.frozen; replace hcg2 := hg2.cell; replace hfg2 := hg2.frozen; clear hgn hgr))
  refine bodyPost_ret (results_cell_row rfl _ _ g1 _ _ (0, 0) _ rfl hg1 Tryd.underlying149 rfl piece_size) rfl ?_
  exact ⟨rfl, HB⟩

set_option maxHeartbeats 4000000 in
set_option maxRecDepth 100000 in
theorem piece_short2 (s : ByteArray) (i : Nat) (hi : i < s.size) (hsz : s.size ≤ 140737488351232) (hb1 : 192 ≤ s[i].toNat) (hb2 : s[i].toNat < 224) (hfit : ¬ i + 2 ≤ s.size) (w : World) :
    Calls Tryd.prog 113 #[.string s, .int .i64 i] w fun e w' => e = .returned (.agg (pieceCells (-1) i 1)) ∧ Below w.heap.size w w' := by
  have HB := Below.refl w.heap.size w
  go_enter Tryd.func113, Tryd.ntmps113
  go_wp2_with (first
    | ((with_reducible refine gate_dst (N := 4) rfl ?_); refine ev_alloc rfl rfl _ piece_zero ?_; intro g1 W1 hg1 hsz hbn; have hgr := grown_of_below hbn; replace hg1 : Blk W1 g1 _ (#[.int .i64 0, .int .i64 0, .int .i64 0]) := hg1; have zg1 : w.heap.size ≤ g1 := (by have := HB.size; omega); replace HB := HB.grown hgr (by have := HB.size; omega) (by simp); have hcg1 := hg1.cell; have hfg1 := hg1.frozen; clear hsz hbn hgr)
    | ((with_reducible refine gate_dst (N := 6) rfl ?_); refine ev_alloc rfl rfl _ piece_zero ?_; intro g2 W2 hg2 hsz hbn; have hgr := grown_of_below hbn; have ng1g2 : g1 ≠ g2 := (by have := hg1.lt; omega); replace hg2 : Blk W2 g2 _ (#[.int .i64 0, .int .i64 0, .int .i64 0]) := hg2; have zg2 : w.heap.size ≤ g2 := (by have := HB.size; omega); replace hg1 := hg1.grown hgr (by simp); replace HB := HB.grown hgr (by have := HB.size; omega) (by simp); have hcg2 := hg2.cell; have hfg2 := hg2.frozen; replace hcg1 := hg1.cell; replace hfg1 := hg1.frozen; clear hsz hbn hgr)
    | ((with_reducible refine gate_store (p := 6) rfl ?_); refine ev_store_row (cs := pieceCells (-1) i 1) rfl rfl rfl hg2 rfl rfl piece_size rfl (pieceCells_one _ _ _) ?_; intro W3 hgn hgr; replace hg1 := hg1.grown hgr (by intro e; injection e with e; omega); replace HB := HB.grown hgr (by have := HB.size; omega) (by intro k e; injection e with e; omega); replace hg2 := hgn; replace hcg1 := hg1.cell; replace hfg1 := hg1.frozen; replace hcg2 := hg2.cell; replace hfg2 := hg2.frozen; clear hgn hgr)
    | ((with_reducible refine gate_dst (N := 58) rfl ?_); refine wpList_load_row rfl _ _ rfl g2 rfl _ _ (0, 0) _ hg2 Tryd.underlying149 rfl piece_size ?_)
    | ((with_reducible refine gate_dst (N := 18) rfl ?_); refine wpList_load_row rfl _ _ rfl g2 rfl _ _ (0, 0) _ hg2 Tryd.underlying149 rfl piece_size ?_)
    | ((with_reducible refine gate_store (p := 4) rfl ?_); refine ev_store_row (cs := pieceCells (-1) i 1) rfl rfl rfl hg1 rfl rfl piece_size rfl (pieceCells_one _ _ _) ?_; intro W4 hgn hgr; replace hg2 := hg2.grown hgr (by intro e; injection e with e; omega); replace HB := HB.grown hgr (by have := HB.size; omega) (by intro k e; injection e with e; omega); replace hg1 := hgn; replace hcg1 := hg1.cell; replace hfg1 := hg1.frozen; replace hcg2 := hg2.cell; replace hfg2 := hg2.frozen; clear hgn hgr))
  refine bodyPost_ret (results_cell_row rfl _ _ g1 _ _ (0, 0) _ rfl hg1 Tryd.underlying149 rfl piece_size) rfl ?_
  exact ⟨rfl, HB⟩
set_option maxHeartbeats 4000000 in
set_option maxRecDepth 100000 in
theorem piece_short3 (s : ByteArray) (i : Nat) (hi : i < s.size) (hsz : s.size ≤ 140737488351232) (hb1 : 224 ≤ s[i].toNat) (hb2 : s[i].toNat < 240) (hfit : ¬ i + 3 ≤ s.size) (w : World) :
    Calls Tryd.prog 113 #[.string s, .int .i64 i] w fun e w' => e = .returned (.agg (pieceCells (-1) i 1)) ∧ Below w.heap.size w w' := by
  have HB := Below.refl w.heap.size w
  go_enter Tryd.func113, Tryd.ntmps113
  go_wp2_with (first
    | ((with_reducible refine gate_dst (N := 4) rfl ?_); refine ev_alloc rfl rfl _ piece_zero ?_; intro g1 W1 hg1 hsz hbn; have hgr := grown_of_below hbn; replace hg1 : Blk W1 g1 _ (#[.int .i64 0, .int .i64 0, .int .i64 0]) := hg1; have zg1 : w.heap.size ≤ g1 := (by have := HB.size; omega); replace HB := HB.grown hgr (by have := HB.size; omega) (by simp); have hcg1 := hg1.cell; have hfg1 := hg1.frozen; clear hsz hbn hgr)
    | ((with_reducible refine gate_dst (N := 6) rfl ?_); refine ev_alloc rfl rfl _ piece_zero ?_; intro g2 W2 hg2 hsz hbn; have hgr := grown_of_below hbn; have ng1g2 : g1 ≠ g2 := (by have := hg1.lt; omega); replace hg2 : Blk W2 g2 _ (#[.int .i64 0, .int .i64 0, .int .i64 0]) := hg2; have zg2 : w.heap.size ≤ g2 := (by have := HB.size; omega); replace hg1 := hg1.grown hgr (by simp); replace HB := HB.grown hgr (by have := HB.size; omega) (by simp); have hcg2 := hg2.cell; have hfg2 := hg2.frozen; replace hcg1 := hg1.cell; replace hfg1 := hg1.frozen; clear hsz hbn hgr)
    | ((with_reducible refine gate_store (p := 6) rfl ?_); refine ev_store_row (cs := pieceCells (-1) i 1) rfl rfl rfl hg2 rfl rfl piece_size rfl (pieceCells_one _ _ _) ?_; intro W3 hgn hgr; replace hg1 := hg1.grown hgr (by intro e; injection e with e; omega); replace HB := HB.grown hgr (by have := HB.size; omega) (by intro k e; injection e with e; omega); replace hg2 := hgn; replace hcg1 := hg1.cell; replace hfg1 := hg1.frozen; replace hcg2 := hg2.cell; replace hfg2 := hg2.frozen; clear hgn hgr)
    | ((with_reducible refine gate_dst (N := 58) rfl ?_); refine wpList_load_row rfl _ _ rfl g2 rfl _ _ (0, 0) _ hg2 Tryd.underlying149 rfl piece_size ?_)
    | ((with_reducible refine gate_dst (N := 18) rfl ?_); refine wpList_load_row rfl _ _ rfl g2 rfl _ _ (0, 0) _ hg2 Tryd.underlying149 rfl piece_size ?_)
    | ((with_reducible refine gate_store (p := 4) rfl ?_); refine ev_store_row (cs := pieceCells (-1) i 1) rfl rfl rfl hg1 rfl rfl piece_size rfl (pieceCells_one _ _ _) ?_; intro W4 hgn hgr; replace hg2 := hg2.grown hgr (by intro e; injection e with e; omega); replace HB := HB.grown hgr (by have := HB.size; omega) (by intro k e; injection e with e; omega); replace hg1 := hgn; replace hcg1 := hg1.cell; replace hfg1 := hg1.frozen; replace hcg2 := hg2.cell; replace hfg2 := hg2.frozen; clear hgn hgr))
  refine bodyPost_ret (results_cell_row rfl _ _ g1 _ _ (0, 0) _ rfl hg1 Tryd.underlying149 rfl piece_size) rfl ?_
  exact ⟨rfl, HB⟩
set_option maxHeartbeats 4000000 in
set_option maxRecDepth 100000 in
theorem piece_short4 (s : ByteArray) (i : Nat) (hi : i < s.size) (hsz : s.size ≤ 140737488351232) (hb1 : 240 ≤ s[i].toNat) (hb2 : s[i].toNat < 248) (hfit : ¬ i + 4 ≤ s.size) (w : World) :
    Calls Tryd.prog 113 #[.string s, .int .i64 i] w fun e w' => e = .returned (.agg (pieceCells (-1) i 1)) ∧ Below w.heap.size w w' := by
  have HB := Below.refl w.heap.size w
  go_enter Tryd.func113, Tryd.ntmps113
  go_wp2_with (first
    | ((with_reducible refine gate_dst (N := 4) rfl ?_); refine ev_alloc rfl rfl _ piece_zero ?_; intro g1 W1 hg1 hsz hbn; have hgr := grown_of_below hbn; replace hg1 : Blk W1 g1 _ (#[.int .i64 0, .int .i64 0, .int .i64 0]) := hg1; have zg1 : w.heap.size ≤ g1 := (by have := HB.size; omega); replace HB := HB.grown hgr (by have := HB.size; omega) (by simp); have hcg1 := hg1.cell; have hfg1 := hg1.frozen; clear hsz hbn hgr)
    | ((with_reducible refine gate_dst (N := 6) rfl ?_); refine ev_alloc rfl rfl _ piece_zero ?_; intro g2 W2 hg2 hsz hbn; have hgr := grown_of_below hbn; have ng1g2 : g1 ≠ g2 := (by have := hg1.lt; omega); replace hg2 : Blk W2 g2 _ (#[.int .i64 0, .int .i64 0, .int .i64 0]) := hg2; have zg2 : w.heap.size ≤ g2 := (by have := HB.size; omega); replace hg1 := hg1.grown hgr (by simp); replace HB := HB.grown hgr (by have := HB.size; omega) (by simp); have hcg2 := hg2.cell; have hfg2 := hg2.frozen; replace hcg1 := hg1.cell; replace hfg1 := hg1.frozen; clear hsz hbn hgr)
    | ((with_reducible refine gate_store (p := 6) rfl ?_); refine ev_store_row (cs := pieceCells (-1) i 1) rfl rfl rfl hg2 rfl rfl piece_size rfl (pieceCells_one _ _ _) ?_; intro W3 hgn hgr; replace hg1 := hg1.grown hgr (by intro e; injection e with e; omega); replace HB := HB.grown hgr (by have := HB.size; omega) (by intro k e; injection e with e; omega); replace hg2 := hgn; replace hcg1 := hg1.cell; replace hfg1 := hg1.frozen; replace hcg2 := hg2.cell; replace hfg2 := hg2.frozen; clear hgn hgr)
    | ((with_reducible refine gate_dst (N := 58) rfl ?_); refine wpList_load_row rfl _ _ rfl g2 rfl _ _ (0, 0) _ hg2 Tryd.underlying149 rfl piece_size ?_)
    | ((with_reducible refine gate_dst (N := 18) rfl ?_); refine wpList_load_row rfl _ _ rfl g2 rfl _ _ (0, 0) _ hg2 Tryd.underlying149 rfl piece_size ?_)
    | ((with_reducible refine gate_store (p := 4) rfl ?_); refine ev_store_row (cs := pieceCells (-1) i 1) rfl rfl rfl hg1 rfl rfl piece_size rfl (pieceCells_one _ _ _) ?_; intro W4 hgn hgr; replace hg2 := hg2.grown hgr (by intro e; injection e with e; omega); replace HB := HB.grown hgr (by have := HB.size; omega) (by intro k e; injection e with e; omega); replace hg1 := hgn; replace hcg1 := hg1.cell; replace hfg1 := hg1.frozen; replace hcg2 := hg2.cell; replace hfg2 := hg2.frozen; clear hgn hgr))
  refine bodyPost_ret (results_cell_row rfl _ _ g1 _ _ (0, 0) _ rfl hg1 Tryd.underlying149 rfl piece_size) rfl ?_
  exact ⟨rfl, HB⟩
set_option maxHeartbeats 4000000 in
set_option maxRecDepth 100000 in
theorem piece_odd (s : ByteArray) (i : Nat) (hi : i < s.size) (hsz : s.size ≤ 140737488351232) (hb1 : 128 ≤ s[i].toNat) (hb2 : s[i].toNat < 192 ∨ 248 ≤ s[i].toNat) (w : World) :
    Calls Tryd.prog 113 #[.string s, .int .i64 i] w fun e w' => e = .returned (.agg (pieceCells (-1) i 1)) ∧ Below w.heap.size w w' := by
  have HB := Below.refl w.heap.size w
  have hx0 := s[i].toNat_lt
  rcases hb2 with hb2 | hb2
  ·
    go_enter Tryd.func113, Tryd.ntmps113
    go_wp2_with (first
      | ((with_reducible refine gate_dst (N := 4) rfl ?_); refine ev_alloc rfl rfl _ piece_zero ?_; intro g1 W1 hg1 hsz hbn; have hgr := grown_of_below hbn; replace hg1 : Blk W1 g1 _ (#[.int .i64 0, .int .i64 0, .int .i64 0]) := hg1; have zg1 : w.heap.size ≤ g1 := (by have := HB.size; omega); replace HB := HB.grown hgr (by have := HB.size; omega) (by simp); have hcg1 := hg1.cell; have hfg1 := hg1.frozen; clear hsz hbn hgr)
      | ((with_reducible refine gate_dst (N := 6) rfl ?_); refine ev_alloc rfl rfl _ piece_zero ?_; intro g2 W2 hg2 hsz hbn; have hgr := grown_of_below hbn; have ng1g2 : g1 ≠ g2 := (by have := hg1.lt; omega); replace hg2 : Blk W2 g2 _ (#[.int .i64 0, .int .i64 0, .int .i64 0]) := hg2; have zg2 : w.heap.size ≤ g2 := (by have := HB.size; omega); replace hg1 := hg1.grown hgr (by simp); replace HB := HB.grown hgr (by have := HB.size; omega) (by simp); have hcg2 := hg2.cell; have hfg2 := hg2.frozen; replace hcg1 := hg1.cell; replace hfg1 := hg1.frozen; clear hsz hbn hgr)
      | ((with_reducible refine gate_store (p := 6) rfl ?_); refine ev_store_row (cs := pieceCells (-1) i 1) rfl rfl rfl hg2 rfl rfl piece_size rfl (pieceCells_one _ _ _) ?_; intro W3 hgn hgr; replace hg1 := hg1.grown hgr (by intro e; injection e with e; omega); replace HB := HB.grown hgr (by have := HB.size; omega) (by intro k e; injection e with e; omega); replace hg2 := hgn; replace hcg1 := hg1.cell; replace hfg1 := hg1.frozen; replace hcg2 := hg2.cell; replace hfg2 := hg2.frozen; clear hgn hgr)
      | ((with_reducible refine gate_dst (N := 58) rfl ?_); refine wpList_load_row rfl _ _ rfl g2 rfl _ _ (0, 0) _ hg2 Tryd.underlying149 rfl piece_size ?_)
      | ((with_reducible refine gate_dst (N := 18) rfl ?_); refine wpList_load_row rfl _ _ rfl g2 rfl _ _ (0, 0) _ hg2 Tryd.underlying149 rfl piece_size ?_)
      | ((with_reducible refine gate_store (p := 4) rfl ?_); refine ev_store_row (cs := pieceCells (-1) i 1) rfl rfl rfl hg1 rfl rfl piece_size rfl (pieceCells_one _ _ _) ?_; intro W4 hgn hgr; replace hg2 := hg2.grown hgr (by intro e; injection e with e; omega); replace HB := HB.grown hgr (by have := HB.size; omega) (by intro k e; injection e with e; omega); replace hg1 := hgn; replace hcg1 := hg1.cell; replace hfg1 := hg1.frozen; replace hcg2 := hg2.cell; replace hfg2 := hg2.frozen; clear hgn hgr))
    refine bodyPost_ret (results_cell_row rfl _ _ g1 _ _ (0, 0) _ rfl hg1 Tryd.underlying149 rfl piece_size) rfl ?_
    exact ⟨rfl, HB⟩
  ·
    go_enter Tryd.func113, Tryd.ntmps113
    go_wp2_with (first
      | ((with_reducible refine gate_dst (N := 4) rfl ?_); refine ev_alloc rfl rfl _ piece_zero ?_; intro g1 W1 hg1 hsz hbn; have hgr := grown_of_below hbn; replace hg1 : Blk W1 g1 _ (#[.int .i64 0, .int .i64 0, .int .i64 0]) := hg1; have zg1 : w.heap.size ≤ g1 := (by have := HB.size; omega); replace HB := HB.grown hgr (by have := HB.size; omega) (by simp); have hcg1 := hg1.cell; have hfg1 := hg1.frozen; clear hsz hbn hgr)
      | ((with_reducible refine gate_dst (N := 6) rfl ?_); refine ev_alloc rfl rfl _ piece_zero ?_; intro g2 W2 hg2 hsz hbn; have hgr := grown_of_below hbn; have ng1g2 : g1 ≠ g2 := (by have := hg1.lt; omega); replace hg2 : Blk W2 g2 _ (#[.int .i64 0, .int .i64 0, .int .i64 0]) := hg2; have zg2 : w.heap.size ≤ g2 := (by have := HB.size; omega); replace hg1 := hg1.grown hgr (by simp); replace HB := HB.grown hgr (by have := HB.size; omega) (by simp); have hcg2 := hg2.cell; have hfg2 := hg2.frozen; replace hcg1 := hg1.cell; replace hfg1 := hg1.frozen; clear hsz hbn hgr)
      | ((with_reducible refine gate_store (p := 6) rfl ?_); refine ev_store_row (cs := pieceCells (-1) i 1) rfl rfl rfl hg2 rfl rfl piece_size rfl (pieceCells_one _ _ _) ?_; intro W3 hgn hgr; replace hg1 := hg1.grown hgr (by intro e; injection e with e; omega); replace HB := HB.grown hgr (by have := HB.size; omega) (by intro k e; injection e with e; omega); replace hg2 := hgn; replace hcg1 := hg1.cell; replace hfg1 := hg1.frozen; replace hcg2 := hg2.cell; replace hfg2 := hg2.frozen; clear hgn hgr)
      | ((with_reducible refine gate_dst (N := 58) rfl ?_); refine wpList_load_row rfl _ _ rfl g2 rfl _ _ (0, 0) _ hg2 Tryd.underlying149 rfl piece_size ?_)
      | ((with_reducible refine gate_dst (N := 18) rfl ?_); refine wpList_load_row rfl _ _ rfl g2 rfl _ _ (0, 0) _ hg2 Tryd.underlying149 rfl piece_size ?_)
      | ((with_reducible refine gate_store (p := 4) rfl ?_); refine ev_store_row (cs := pieceCells (-1) i 1) rfl rfl rfl hg1 rfl rfl piece_size rfl (pieceCells_one _ _ _) ?_; intro W4 hgn hgr; replace hg2 := hg2.grown hgr (by intro e; injection e with e; omega); replace HB := HB.grown hgr (by have := HB.size; omega) (by intro k e; injection e with e; omega); replace hg1 := hgn; replace hcg1 := hg1.cell; replace hfg1 := hg1.frozen; replace hcg2 := hg2.cell; replace hfg2 := hg2.frozen; clear hgn hgr))
    refine bodyPost_ret (results_cell_row rfl _ _ g1 _ _ (0, 0) _ rfl hg1 Tryd.underlying149 rfl piece_size) rfl ?_
    exact ⟨rfl, HB⟩
end Go.Proofs.YtikodgaomhmbmaaDoor
