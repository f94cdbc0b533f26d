/-
  The walks of lift.known, (lift.way).does, lift.next.
-/
import Derived.Test.YtikodgaomhmbmaaDoorT
import Derived.Laws.EntriesVeiled
import Derived.Deep.MidRow
set_option linter.unusedVariables false
set_option linter.unusedSimpArgs false
namespace Go.Proofs.YtikodgaomhmbmaaDoor
open Go.RowKit

theorem known_calls (v : Int) (w : World) : Calls Tryd.prog 61 #[.int .i64 v] w fun e w' => e = .returned (.bool (decide (1 ≤ v) && decide (v ≤ 3))) ∧ w = w' := by
  by_cases h1 : 1 ≤ v
  · have h1' : decide (1 ≤ v) = true := by simp [h1]
    by_cases h3 : v ≤ 3
    · have h3' : decide (v ≤ 3) = true := by simp [h3]
      go_enter Tryd.func61, Tryd.ntmps61
      go_wp2
      go_ret
      exact ⟨ret_bool (by simp [h1, h3]), rfl⟩
    · have h3' : decide (v ≤ 3) = false := by simp; omega
      go_enter Tryd.func61, Tryd.ntmps61
      go_wp2
      go_ret
      exact ⟨ret_bool (by simp [h1, h3]), rfl⟩
  · have h1' : decide (1 ≤ v) = false := by simp; omega
    go_enter Tryd.func61, Tryd.ntmps61
    go_wp2
    go_ret
    exact ⟨ret_bool (by simp [h1]), rfl⟩

/-- What a step's four cells are: two versions, the name, the function. -/
def stepCells (a b : Int) (s : ByteArray) (f : Nat) : Array Value := #[.int .i64 a, .int .i64 b, .string s, .func (.func f) #[] #[]]
theorem step_zero : (Tryd.prog.info? 94).map (fun i => i.zero) = some (some (.agg #[.int .i64 0, .int .i64 0, .string ⟨#[]⟩, .nilFunc])) := by kernel_rfl
theorem step_size : (Tryd.prog.info? 94).map (·.size) = some 4 := by kernel_rfl
theorem way_size : (Tryd.prog.info? 91).map (·.size) = some 3 := by kernel_rfl

def nm1to2 : ByteArray := ⟨#[49, 116, 111, 50]⟩
set_option maxRecDepth 100000 in
theorem does1to2_calls (w : World) : Calls Tryd.prog 82 #[.agg #[.int .i64 1, .int .i64 2, .string nm1to2]] w fun e w' => e = .returned (.agg (stepCells 1 2 nm1to2 96)) ∧ Below w.heap.size w w' := by
  have HB := Below.refl w.heap.size w
  go_enter Tryd.func82, Tryd.ntmps82
  go_wp2_with (first
    | ((with_reducible refine gate_dst (N := 1) rfl ?_); refine ev_box rfl rfl (#[.int .i64 1, .int .i64 2, .string nm1to2]) rfl ?_; intro g1 W1 hg1 hsz hbn; have hgr := grown_of_below hbn; have zg1 : w.heap.size ≤ g1 := (by have := HB.size; omega); replace HB := HB.grown hgr (by have := HB.size; omega) (by simp); have hcg1 := hg1.cell; have hfg1 := hg1.frozen; clear hsz hbn hgr)
    | ((with_reducible refine gate_dst (N := 2) rfl ?_); refine ev_alloc rfl rfl _ step_zero ?_; intro g2 W2 hg2 hsz hbn; have hgr := grown_of_below hbn; have ng1g2 : g1 ≠ g2 := (by have := hg1.lt; omega); replace hg2 : Blk W2 g2 _ (#[.int .i64 0, .int .i64 0, .string ⟨#[]⟩, .nilFunc]) := hg2; have zg2 : w.heap.size ≤ g2 := (by have := HB.size; omega); replace hg1 := hg1.grown hgr (by simp); replace HB := HB.grown hgr (by have := HB.size; omega) (by simp); have hcg2 := hg2.cell; have hfg2 := hg2.frozen; replace hcg1 := hg1.cell; replace hfg1 := hg1.frozen; clear hsz hbn hgr)
    | ((with_reducible refine gate_store (p := 2) rfl ?_); refine ev_store_row (cs := stepCells 1 2 nm1to2 96) rfl rfl rfl hg2 rfl rfl step_size rfl (by simp [stepCells, Value.oneCell']) ?_; intro W3 hgn hgr; replace hg1 := hg1.grown hgr (by intro e; injection e with e; omega); replace HB := HB.grown hgr (by have := HB.size; omega) (by intro k e; injection e with e; omega); replace hg2 := hgn; replace hcg1 := hg1.cell; replace hfg1 := hg1.frozen; replace hcg2 := hg2.cell; replace hfg2 := hg2.frozen; clear hgn hgr))
  refine bodyPost_ret (results_cell_row rfl _ _ g2 _ _ (0, 0) _ rfl hg2 Tryd.underlying94 rfl step_size) rfl ?_
  exact ⟨rfl, HB⟩
def nm2to3 : ByteArray := ⟨#[50, 116, 111, 51]⟩
set_option maxRecDepth 100000 in
theorem does2to3_calls (w : World) : Calls Tryd.prog 82 #[.agg #[.int .i64 2, .int .i64 3, .string nm2to3]] w fun e w' => e = .returned (.agg (stepCells 2 3 nm2to3 83)) ∧ Below w.heap.size w w' := by
  have HB := Below.refl w.heap.size w
  go_enter Tryd.func82, Tryd.ntmps82
  go_wp2_with (first
    | ((with_reducible refine gate_dst (N := 1) rfl ?_); refine ev_box rfl rfl (#[.int .i64 2, .int .i64 3, .string nm2to3]) rfl ?_; intro g1 W1 hg1 hsz hbn; have hgr := grown_of_below hbn; have zg1 : w.heap.size ≤ g1 := (by have := HB.size; omega); replace HB := HB.grown hgr (by have := HB.size; omega) (by simp); have hcg1 := hg1.cell; have hfg1 := hg1.frozen; clear hsz hbn hgr)
    | ((with_reducible refine gate_dst (N := 2) rfl ?_); refine ev_alloc rfl rfl _ step_zero ?_; intro g2 W2 hg2 hsz hbn; have hgr := grown_of_below hbn; have ng1g2 : g1 ≠ g2 := (by have := hg1.lt; omega); replace hg2 : Blk W2 g2 _ (#[.int .i64 0, .int .i64 0, .string ⟨#[]⟩, .nilFunc]) := hg2; have zg2 : w.heap.size ≤ g2 := (by have := HB.size; omega); replace hg1 := hg1.grown hgr (by simp); replace HB := HB.grown hgr (by have := HB.size; omega) (by simp); have hcg2 := hg2.cell; have hfg2 := hg2.frozen; replace hcg1 := hg1.cell; replace hfg1 := hg1.frozen; clear hsz hbn hgr)
    | ((with_reducible refine gate_store (p := 2) rfl ?_); refine ev_store_row (cs := stepCells 2 3 nm2to3 83) rfl rfl rfl hg2 rfl rfl step_size rfl (by simp [stepCells, Value.oneCell']) ?_; intro W3 hgn hgr; replace hg1 := hg1.grown hgr (by intro e; injection e with e; omega); replace HB := HB.grown hgr (by have := HB.size; omega) (by intro k e; injection e with e; omega); replace hg2 := hgn; replace hcg1 := hg1.cell; replace hfg1 := hg1.frozen; replace hcg2 := hg2.cell; replace hfg2 := hg2.frozen; clear hgn hgr))
  refine bodyPost_ret (results_cell_row rfl _ _ g2 _ _ (0, 0) _ rfl hg2 Tryd.underlying94 rfl step_size) rfl ?_
  exact ⟨rfl, HB⟩
def nm3to2 : ByteArray := ⟨#[51, 116, 111, 50]⟩
set_option maxRecDepth 100000 in
theorem does3to2_calls (w : World) : Calls Tryd.prog 82 #[.agg #[.int .i64 3, .int .i64 2, .string nm3to2]] w fun e w' => e = .returned (.agg (stepCells 3 2 nm3to2 97)) ∧ Below w.heap.size w w' := by
  have HB := Below.refl w.heap.size w
  go_enter Tryd.func82, Tryd.ntmps82
  go_wp2_with (first
    | ((with_reducible refine gate_dst (N := 1) rfl ?_); refine ev_box rfl rfl (#[.int .i64 3, .int .i64 2, .string nm3to2]) rfl ?_; intro g1 W1 hg1 hsz hbn; have hgr := grown_of_below hbn; have zg1 : w.heap.size ≤ g1 := (by have := HB.size; omega); replace HB := HB.grown hgr (by have := HB.size; omega) (by simp); have hcg1 := hg1.cell; have hfg1 := hg1.frozen; clear hsz hbn hgr)
    | ((with_reducible refine gate_dst (N := 2) rfl ?_); refine ev_alloc rfl rfl _ step_zero ?_; intro g2 W2 hg2 hsz hbn; have hgr := grown_of_below hbn; have ng1g2 : g1 ≠ g2 := (by have := hg1.lt; omega); replace hg2 : Blk W2 g2 _ (#[.int .i64 0, .int .i64 0, .string ⟨#[]⟩, .nilFunc]) := hg2; have zg2 : w.heap.size ≤ g2 := (by have := HB.size; omega); replace hg1 := hg1.grown hgr (by simp); replace HB := HB.grown hgr (by have := HB.size; omega) (by simp); have hcg2 := hg2.cell; have hfg2 := hg2.frozen; replace hcg1 := hg1.cell; replace hfg1 := hg1.frozen; clear hsz hbn hgr)
    | ((with_reducible refine gate_store (p := 2) rfl ?_); refine ev_store_row (cs := stepCells 3 2 nm3to2 97) rfl rfl rfl hg2 rfl rfl step_size rfl (by simp [stepCells, Value.oneCell']) ?_; intro W3 hgn hgr; replace hg1 := hg1.grown hgr (by intro e; injection e with e; omega); replace HB := HB.grown hgr (by have := HB.size; omega) (by intro k e; injection e with e; omega); replace hg2 := hgn; replace hcg1 := hg1.cell; replace hfg1 := hg1.frozen; replace hcg2 := hg2.cell; replace hfg2 := hg2.frozen; clear hgn hgr))
  refine bodyPost_ret (results_cell_row rfl _ _ g2 _ _ (0, 0) _ rfl hg2 Tryd.underlying94 rfl step_size) rfl ?_
  exact ⟨rfl, HB⟩
def nm2to1 : ByteArray := ⟨#[50, 116, 111, 49]⟩
set_option maxRecDepth 100000 in
theorem does2to1_calls (w : World) : Calls Tryd.prog 82 #[.agg #[.int .i64 2, .int .i64 1, .string nm2to1]] w fun e w' => e = .returned (.agg (stepCells 2 1 nm2to1 98)) ∧ Below w.heap.size w w' := by
  have HB := Below.refl w.heap.size w
  go_enter Tryd.func82, Tryd.ntmps82
  go_wp2_with (first
    | ((with_reducible refine gate_dst (N := 1) rfl ?_); refine ev_box rfl rfl (#[.int .i64 2, .int .i64 1, .string nm2to1]) rfl ?_; intro g1 W1 hg1 hsz hbn; have hgr := grown_of_below hbn; have zg1 : w.heap.size ≤ g1 := (by have := HB.size; omega); replace HB := HB.grown hgr (by have := HB.size; omega) (by simp); have hcg1 := hg1.cell; have hfg1 := hg1.frozen; clear hsz hbn hgr)
    | ((with_reducible refine gate_dst (N := 2) rfl ?_); refine ev_alloc rfl rfl _ step_zero ?_; intro g2 W2 hg2 hsz hbn; have hgr := grown_of_below hbn; have ng1g2 : g1 ≠ g2 := (by have := hg1.lt; omega); replace hg2 : Blk W2 g2 _ (#[.int .i64 0, .int .i64 0, .string ⟨#[]⟩, .nilFunc]) := hg2; have zg2 : w.heap.size ≤ g2 := (by have := HB.size; omega); replace hg1 := hg1.grown hgr (by simp); replace HB := HB.grown hgr (by have := HB.size; omega) (by simp); have hcg2 := hg2.cell; have hfg2 := hg2.frozen; replace hcg1 := hg1.cell; replace hfg1 := hg1.frozen; clear hsz hbn hgr)
    | ((with_reducible refine gate_store (p := 2) rfl ?_); refine ev_store_row (cs := stepCells 2 1 nm2to1 98) rfl rfl rfl hg2 rfl rfl step_size rfl (by simp [stepCells, Value.oneCell']) ?_; intro W3 hgn hgr; replace hg1 := hg1.grown hgr (by intro e; injection e with e; omega); replace HB := HB.grown hgr (by have := HB.size; omega) (by intro k e; injection e with e; omega); replace hg2 := hgn; replace hcg1 := hg1.cell; replace hfg1 := hg1.frozen; replace hcg2 := hg2.cell; replace hfg2 := hg2.frozen; clear hgn hgr))
  refine bodyPost_ret (results_cell_row rfl _ _ g2 _ _ (0, 0) _ rfl hg2 Tryd.underlying94 rfl step_size) rfl ?_
  exact ⟨rfl, HB⟩

theorem Tab.range {w : World} {g : Nat} {vs cs : List Value} (h : Tab w g vs) (o n : Nat) (hc : (vs.drop o).take n = cs) : w.rangeAt g o cs := by
  subst hc
  intro j v hv
  rw [List.getElem?_take] at hv
  split at hv
  · rw [List.getElem?_drop] at hv
    exact h.2 _ _ hv
  · cases hv
/-- The table of ways. -/
def waysL : List Value := [.int .i64 1, .int .i64 2, .string nm1to2, .int .i64 2, .int .i64 3, .string nm2to3, .int .i64 3, .int .i64 2, .string nm3to2, .int .i64 2, .int .i64 1, .string nm2to1]
theorem ways_tab {w : World} (h : Go.Lib.VarReads Tryd.prog w "annals/lift.ways" (.agg [.agg [.lit (.int .i64 1), .lit (.int .i64 2), .lit (.string [49, 116, 111, 50])], .agg [.lit (.int .i64 2), .lit (.int .i64 3), .lit (.string [50, 116, 111, 51])], .agg [.lit (.int .i64 3), .lit (.int .i64 2), .lit (.string [51, 116, 111, 50])], .agg [.lit (.int .i64 2), .lit (.int .i64 1), .lit (.string [50, 116, 111, 49])]])) : Tab w 1 waysL :=
  tab_of_reads (t := 117) 4 h (by kernel_rfl) (by kernel_rfl) (by kernel_rfl) waysL rfl (by decide)

set_option maxHeartbeats 1000000 in
set_option maxRecDepth 100000 in
theorem next12_calls (w : World) (ht : Tab w 1 waysL) : Calls Tryd.prog 62 #[.int .i64 1, .int .i64 2] w fun e w' => e = .returned (.agg (stepCells 1 2 nm1to2 96)) ∧ Below w.heap.size w w' := by
  have HB := Below.refl w.heap.size w
  go_enter Tryd.func62, Tryd.ntmps62
  go_wp2_with (first
    | ((with_reducible refine gate_dst (N := 4) rfl ?_); refine ev_alloc rfl rfl _ step_zero ?_; intro g1 W1 hg1 hsz hbn; have hgr := grown_of_below hbn; replace hg1 : Blk W1 g1 _ (#[.int .i64 0, .int .i64 0, .string ⟨#[]⟩, .nilFunc]) := hg1; have zg1 : w.heap.size ≤ g1 := (by have := HB.size; omega); replace HB := HB.grown hgr (by have := HB.size; omega) (by simp); have hcg1 := hg1.cell; have hfg1 := hg1.frozen; clear hsz hbn hgr))
  have ht1 := ht.next HB
  have w0 := ht1.2 0 _ rfl
  have w1 := ht1.2 1 _ rfl
  have w2 := ht1.2 2 _ rfl
  have w3 := ht1.2 3 _ rfl
  have w4 := ht1.2 4 _ rfl
  have w5 := ht1.2 5 _ rfl
  have w6 := ht1.2 6 _ rfl
  have w7 := ht1.2 7 _ rfl
  have w8 := ht1.2 8 _ rfl
  have w9 := ht1.2 9 _ rfl
  have w10 := ht1.2 10 _ rfl
  have w11 := ht1.2 11 _ rfl
  go_loopg [6] 0 (fun n v6 wr => ∃ k : Int, (n : Int) + k = 0 ∧ 0 ≤ k ∧ v6 = .int .i64 k ∧ wr = W1)
  case atStart => exact ⟨0, by omega, by omega, rfl, rfl⟩
  case round =>
    obtain ⟨k, hk, h0, rfl, rfl⟩ := hrel
    obtain rfl | rfl | rfl | rfl : k = 0 ∨ k = 1 ∨ k = 2 ∨ k = 3 := by omega
    all_goals first
      | (exfalso; omega)
      | (go_wp2
         go_roundg (gk - 1)
         case measure => omega
         case rel => exact ⟨_, by omega, by omega, rfl, rfl⟩)
      | skip
    go_wp2_with (first
      | ((with_reducible refine gate_dst (N := 29) rfl ?_); refine wpList_load_mid rfl _ _ rfl 1 0 rfl [.int .i64 1, .int .i64 2, .string nm1to2] _ (ht1.range 0 3 rfl) Tryd.underlying91 rfl way_size ?_)
      | (go_at_call 82; (with_reducible refine (does1to2_calls _).mono ?_); rintro e W1 ⟨rfl, hb⟩; have hgr := grown_of_below hb; replace hg1 := hg1.grown hgr (by simp); replace HB := HB.grown hgr (by have := HB.size; omega) (by simp); replace hcg1 := hg1.cell; replace hfg1 := hg1.frozen; clear hb hgr)
      | ((with_reducible refine gate_store (p := 4) rfl ?_); refine ev_store_row (cs := stepCells 1 2 nm1to2 96) rfl rfl rfl hg1 rfl rfl step_size rfl (by simp [stepCells, Value.oneCell']) ?_; intro W2 hgn hgr; replace HB := HB.grown hgr (by have := HB.size; omega) (by intro k e; injection e with e; omega); replace hg1 := hgn; replace hcg1 := hg1.cell; replace hfg1 := hg1.frozen; clear hgn hgr))
    refine bodyPost_ret (results_cell_row rfl _ _ g1 _ _ (0, 0) _ rfl hg1 Tryd.underlying94 rfl step_size) rfl ?_
    exact ⟨rfl, HB⟩
set_option maxHeartbeats 1000000 in
set_option maxRecDepth 100000 in
theorem next13_calls (w : World) (ht : Tab w 1 waysL) : Calls Tryd.prog 62 #[.int .i64 1, .int .i64 3] w fun e w' => e = .returned (.agg (stepCells 1 2 nm1to2 96)) ∧ Below w.heap.size w w' := by
  have HB := Below.refl w.heap.size w
  go_enter Tryd.func62, Tryd.ntmps62
  go_wp2_with (first
    | ((with_reducible refine gate_dst (N := 4) rfl ?_); refine ev_alloc rfl rfl _ step_zero ?_; intro g1 W1 hg1 hsz hbn; have hgr := grown_of_below hbn; replace hg1 : Blk W1 g1 _ (#[.int .i64 0, .int .i64 0, .string ⟨#[]⟩, .nilFunc]) := hg1; have zg1 : w.heap.size ≤ g1 := (by have := HB.size; omega); replace HB := HB.grown hgr (by have := HB.size; omega) (by simp); have hcg1 := hg1.cell; have hfg1 := hg1.frozen; clear hsz hbn hgr))
  have ht1 := ht.next HB
  have w0 := ht1.2 0 _ rfl
  have w1 := ht1.2 1 _ rfl
  have w2 := ht1.2 2 _ rfl
  have w3 := ht1.2 3 _ rfl
  have w4 := ht1.2 4 _ rfl
  have w5 := ht1.2 5 _ rfl
  have w6 := ht1.2 6 _ rfl
  have w7 := ht1.2 7 _ rfl
  have w8 := ht1.2 8 _ rfl
  have w9 := ht1.2 9 _ rfl
  have w10 := ht1.2 10 _ rfl
  have w11 := ht1.2 11 _ rfl
  go_loopg [6] 0 (fun n v6 wr => ∃ k : Int, (n : Int) + k = 0 ∧ 0 ≤ k ∧ v6 = .int .i64 k ∧ wr = W1)
  case atStart => exact ⟨0, by omega, by omega, rfl, rfl⟩
  case round =>
    obtain ⟨k, hk, h0, rfl, rfl⟩ := hrel
    obtain rfl | rfl | rfl | rfl : k = 0 ∨ k = 1 ∨ k = 2 ∨ k = 3 := by omega
    all_goals first
      | (exfalso; omega)
      | (go_wp2
         go_roundg (gk - 1)
         case measure => omega
         case rel => exact ⟨_, by omega, by omega, rfl, rfl⟩)
      | skip
    go_wp2_with (first
      | ((with_reducible refine gate_dst (N := 29) rfl ?_); refine wpList_load_mid rfl _ _ rfl 1 0 rfl [.int .i64 1, .int .i64 2, .string nm1to2] _ (ht1.range 0 3 rfl) Tryd.underlying91 rfl way_size ?_)
      | (go_at_call 82; (with_reducible refine (does1to2_calls _).mono ?_); rintro e W1 ⟨rfl, hb⟩; have hgr := grown_of_below hb; replace hg1 := hg1.grown hgr (by simp); replace HB := HB.grown hgr (by have := HB.size; omega) (by simp); replace hcg1 := hg1.cell; replace hfg1 := hg1.frozen; clear hb hgr)
      | ((with_reducible refine gate_store (p := 4) rfl ?_); refine ev_store_row (cs := stepCells 1 2 nm1to2 96) rfl rfl rfl hg1 rfl rfl step_size rfl (by simp [stepCells, Value.oneCell']) ?_; intro W2 hgn hgr; replace HB := HB.grown hgr (by have := HB.size; omega) (by intro k e; injection e with e; omega); replace hg1 := hgn; replace hcg1 := hg1.cell; replace hfg1 := hg1.frozen; clear hgn hgr))
    refine bodyPost_ret (results_cell_row rfl _ _ g1 _ _ (0, 0) _ rfl hg1 Tryd.underlying94 rfl step_size) rfl ?_
    exact ⟨rfl, HB⟩
set_option maxHeartbeats 1000000 in
set_option maxRecDepth 100000 in
theorem next23_calls (w : World) (ht : Tab w 1 waysL) : Calls Tryd.prog 62 #[.int .i64 2, .int .i64 3] w fun e w' => e = .returned (.agg (stepCells 2 3 nm2to3 83)) ∧ Below w.heap.size w w' := by
  have HB := Below.refl w.heap.size w
  go_enter Tryd.func62, Tryd.ntmps62
  go_wp2_with (first
    | ((with_reducible refine gate_dst (N := 4) rfl ?_); refine ev_alloc rfl rfl _ step_zero ?_; intro g1 W1 hg1 hsz hbn; have hgr := grown_of_below hbn; replace hg1 : Blk W1 g1 _ (#[.int .i64 0, .int .i64 0, .string ⟨#[]⟩, .nilFunc]) := hg1; have zg1 : w.heap.size ≤ g1 := (by have := HB.size; omega); replace HB := HB.grown hgr (by have := HB.size; omega) (by simp); have hcg1 := hg1.cell; have hfg1 := hg1.frozen; clear hsz hbn hgr))
  have ht1 := ht.next HB
  have w0 := ht1.2 0 _ rfl
  have w1 := ht1.2 1 _ rfl
  have w2 := ht1.2 2 _ rfl
  have w3 := ht1.2 3 _ rfl
  have w4 := ht1.2 4 _ rfl
  have w5 := ht1.2 5 _ rfl
  have w6 := ht1.2 6 _ rfl
  have w7 := ht1.2 7 _ rfl
  have w8 := ht1.2 8 _ rfl
  have w9 := ht1.2 9 _ rfl
  have w10 := ht1.2 10 _ rfl
  have w11 := ht1.2 11 _ rfl
  go_loopg [6] 1 (fun n v6 wr => ∃ k : Int, (n : Int) + k = 1 ∧ 0 ≤ k ∧ v6 = .int .i64 k ∧ wr = W1)
  case atStart => exact ⟨0, by omega, by omega, rfl, rfl⟩
  case round =>
    obtain ⟨k, hk, h0, rfl, rfl⟩ := hrel
    obtain rfl | rfl | rfl | rfl : k = 0 ∨ k = 1 ∨ k = 2 ∨ k = 3 := by omega
    all_goals first
      | (exfalso; omega)
      | (go_wp2
         go_roundg (gk - 1)
         case measure => omega
         case rel => exact ⟨_, by omega, by omega, rfl, rfl⟩)
      | skip
    go_wp2_with (first
      | ((with_reducible refine gate_dst (N := 29) rfl ?_); refine wpList_load_mid rfl _ _ rfl 1 3 rfl [.int .i64 2, .int .i64 3, .string nm2to3] _ (ht1.range 3 3 rfl) Tryd.underlying91 rfl way_size ?_)
      | (go_at_call 82; (with_reducible refine (does2to3_calls _).mono ?_); rintro e W1 ⟨rfl, hb⟩; have hgr := grown_of_below hb; replace hg1 := hg1.grown hgr (by simp); replace HB := HB.grown hgr (by have := HB.size; omega) (by simp); replace hcg1 := hg1.cell; replace hfg1 := hg1.frozen; clear hb hgr)
      | ((with_reducible refine gate_store (p := 4) rfl ?_); refine ev_store_row (cs := stepCells 2 3 nm2to3 83) rfl rfl rfl hg1 rfl rfl step_size rfl (by simp [stepCells, Value.oneCell']) ?_; intro W2 hgn hgr; replace HB := HB.grown hgr (by have := HB.size; omega) (by intro k e; injection e with e; omega); replace hg1 := hgn; replace hcg1 := hg1.cell; replace hfg1 := hg1.frozen; clear hgn hgr))
    refine bodyPost_ret (results_cell_row rfl _ _ g1 _ _ (0, 0) _ rfl hg1 Tryd.underlying94 rfl step_size) rfl ?_
    exact ⟨rfl, HB⟩
set_option maxHeartbeats 1000000 in
set_option maxRecDepth 100000 in
theorem next32_calls (w : World) (ht : Tab w 1 waysL) : Calls Tryd.prog 62 #[.int .i64 3, .int .i64 2] w fun e w' => e = .returned (.agg (stepCells 3 2 nm3to2 97)) ∧ Below w.heap.size w w' := by
  have HB := Below.refl w.heap.size w
  go_enter Tryd.func62, Tryd.ntmps62
  go_wp2_with (first
    | ((with_reducible refine gate_dst (N := 4) rfl ?_); refine ev_alloc rfl rfl _ step_zero ?_; intro g1 W1 hg1 hsz hbn; have hgr := grown_of_below hbn; replace hg1 : Blk W1 g1 _ (#[.int .i64 0, .int .i64 0, .string ⟨#[]⟩, .nilFunc]) := hg1; have zg1 : w.heap.size ≤ g1 := (by have := HB.size; omega); replace HB := HB.grown hgr (by have := HB.size; omega) (by simp); have hcg1 := hg1.cell; have hfg1 := hg1.frozen; clear hsz hbn hgr))
  have ht1 := ht.next HB
  have w0 := ht1.2 0 _ rfl
  have w1 := ht1.2 1 _ rfl
  have w2 := ht1.2 2 _ rfl
  have w3 := ht1.2 3 _ rfl
  have w4 := ht1.2 4 _ rfl
  have w5 := ht1.2 5 _ rfl
  have w6 := ht1.2 6 _ rfl
  have w7 := ht1.2 7 _ rfl
  have w8 := ht1.2 8 _ rfl
  have w9 := ht1.2 9 _ rfl
  have w10 := ht1.2 10 _ rfl
  have w11 := ht1.2 11 _ rfl
  go_loopg [6] 2 (fun n v6 wr => ∃ k : Int, (n : Int) + k = 2 ∧ 0 ≤ k ∧ v6 = .int .i64 k ∧ wr = W1)
  case atStart => exact ⟨0, by omega, by omega, rfl, rfl⟩
  case round =>
    obtain ⟨k, hk, h0, rfl, rfl⟩ := hrel
    obtain rfl | rfl | rfl | rfl : k = 0 ∨ k = 1 ∨ k = 2 ∨ k = 3 := by omega
    all_goals first
      | (exfalso; omega)
      | (go_wp2
         go_roundg (gk - 1)
         case measure => omega
         case rel => exact ⟨_, by omega, by omega, rfl, rfl⟩)
      | skip
    go_wp2_with (first
      | ((with_reducible refine gate_dst (N := 29) rfl ?_); refine wpList_load_mid rfl _ _ rfl 1 6 rfl [.int .i64 3, .int .i64 2, .string nm3to2] _ (ht1.range 6 3 rfl) Tryd.underlying91 rfl way_size ?_)
      | (go_at_call 82; (with_reducible refine (does3to2_calls _).mono ?_); rintro e W1 ⟨rfl, hb⟩; have hgr := grown_of_below hb; replace hg1 := hg1.grown hgr (by simp); replace HB := HB.grown hgr (by have := HB.size; omega) (by simp); replace hcg1 := hg1.cell; replace hfg1 := hg1.frozen; clear hb hgr)
      | ((with_reducible refine gate_store (p := 4) rfl ?_); refine ev_store_row (cs := stepCells 3 2 nm3to2 97) rfl rfl rfl hg1 rfl rfl step_size rfl (by simp [stepCells, Value.oneCell']) ?_; intro W2 hgn hgr; replace HB := HB.grown hgr (by have := HB.size; omega) (by intro k e; injection e with e; omega); replace hg1 := hgn; replace hcg1 := hg1.cell; replace hfg1 := hg1.frozen; clear hgn hgr))
    refine bodyPost_ret (results_cell_row rfl _ _ g1 _ _ (0, 0) _ rfl hg1 Tryd.underlying94 rfl step_size) rfl ?_
    exact ⟨rfl, HB⟩
set_option maxHeartbeats 1000000 in
set_option maxRecDepth 100000 in
theorem next31_calls (w : World) (ht : Tab w 1 waysL) : Calls Tryd.prog 62 #[.int .i64 3, .int .i64 1] w fun e w' => e = .returned (.agg (stepCells 3 2 nm3to2 97)) ∧ Below w.heap.size w w' := by
  have HB := Below.refl w.heap.size w
  go_enter Tryd.func62, Tryd.ntmps62
  go_wp2_with (first
    | ((with_reducible refine gate_dst (N := 4) rfl ?_); refine ev_alloc rfl rfl _ step_zero ?_; intro g1 W1 hg1 hsz hbn; have hgr := grown_of_below hbn; replace hg1 : Blk W1 g1 _ (#[.int .i64 0, .int .i64 0, .string ⟨#[]⟩, .nilFunc]) := hg1; have zg1 : w.heap.size ≤ g1 := (by have := HB.size; omega); replace HB := HB.grown hgr (by have := HB.size; omega) (by simp); have hcg1 := hg1.cell; have hfg1 := hg1.frozen; clear hsz hbn hgr))
  have ht1 := ht.next HB
  have w0 := ht1.2 0 _ rfl
  have w1 := ht1.2 1 _ rfl
  have w2 := ht1.2 2 _ rfl
  have w3 := ht1.2 3 _ rfl
  have w4 := ht1.2 4 _ rfl
  have w5 := ht1.2 5 _ rfl
  have w6 := ht1.2 6 _ rfl
  have w7 := ht1.2 7 _ rfl
  have w8 := ht1.2 8 _ rfl
  have w9 := ht1.2 9 _ rfl
  have w10 := ht1.2 10 _ rfl
  have w11 := ht1.2 11 _ rfl
  go_loopg [6] 2 (fun n v6 wr => ∃ k : Int, (n : Int) + k = 2 ∧ 0 ≤ k ∧ v6 = .int .i64 k ∧ wr = W1)
  case atStart => exact ⟨0, by omega, by omega, rfl, rfl⟩
  case round =>
    obtain ⟨k, hk, h0, rfl, rfl⟩ := hrel
    obtain rfl | rfl | rfl | rfl : k = 0 ∨ k = 1 ∨ k = 2 ∨ k = 3 := by omega
    all_goals first
      | (exfalso; omega)
      | (go_wp2
         go_roundg (gk - 1)
         case measure => omega
         case rel => exact ⟨_, by omega, by omega, rfl, rfl⟩)
      | skip
    go_wp2_with (first
      | ((with_reducible refine gate_dst (N := 29) rfl ?_); refine wpList_load_mid rfl _ _ rfl 1 6 rfl [.int .i64 3, .int .i64 2, .string nm3to2] _ (ht1.range 6 3 rfl) Tryd.underlying91 rfl way_size ?_)
      | (go_at_call 82; (with_reducible refine (does3to2_calls _).mono ?_); rintro e W1 ⟨rfl, hb⟩; have hgr := grown_of_below hb; replace hg1 := hg1.grown hgr (by simp); replace HB := HB.grown hgr (by have := HB.size; omega) (by simp); replace hcg1 := hg1.cell; replace hfg1 := hg1.frozen; clear hb hgr)
      | ((with_reducible refine gate_store (p := 4) rfl ?_); refine ev_store_row (cs := stepCells 3 2 nm3to2 97) rfl rfl rfl hg1 rfl rfl step_size rfl (by simp [stepCells, Value.oneCell']) ?_; intro W2 hgn hgr; replace HB := HB.grown hgr (by have := HB.size; omega) (by intro k e; injection e with e; omega); replace hg1 := hgn; replace hcg1 := hg1.cell; replace hfg1 := hg1.frozen; clear hgn hgr))
    refine bodyPost_ret (results_cell_row rfl _ _ g1 _ _ (0, 0) _ rfl hg1 Tryd.underlying94 rfl step_size) rfl ?_
    exact ⟨rfl, HB⟩
set_option maxHeartbeats 1000000 in
set_option maxRecDepth 100000 in
theorem next21_calls (w : World) (ht : Tab w 1 waysL) : Calls Tryd.prog 62 #[.int .i64 2, .int .i64 1] w fun e w' => e = .returned (.agg (stepCells 2 1 nm2to1 98)) ∧ Below w.heap.size w w' := by
  have HB := Below.refl w.heap.size w
  go_enter Tryd.func62, Tryd.ntmps62
  go_wp2_with (first
    | ((with_reducible refine gate_dst (N := 4) rfl ?_); refine ev_alloc rfl rfl _ step_zero ?_; intro g1 W1 hg1 hsz hbn; have hgr := grown_of_below hbn; replace hg1 : Blk W1 g1 _ (#[.int .i64 0, .int .i64 0, .string ⟨#[]⟩, .nilFunc]) := hg1; have zg1 : w.heap.size ≤ g1 := (by have := HB.size; omega); replace HB := HB.grown hgr (by have := HB.size; omega) (by simp); have hcg1 := hg1.cell; have hfg1 := hg1.frozen; clear hsz hbn hgr))
  have ht1 := ht.next HB
  have w0 := ht1.2 0 _ rfl
  have w1 := ht1.2 1 _ rfl
  have w2 := ht1.2 2 _ rfl
  have w3 := ht1.2 3 _ rfl
  have w4 := ht1.2 4 _ rfl
  have w5 := ht1.2 5 _ rfl
  have w6 := ht1.2 6 _ rfl
  have w7 := ht1.2 7 _ rfl
  have w8 := ht1.2 8 _ rfl
  have w9 := ht1.2 9 _ rfl
  have w10 := ht1.2 10 _ rfl
  have w11 := ht1.2 11 _ rfl
  go_loopg [6] 3 (fun n v6 wr => ∃ k : Int, (n : Int) + k = 3 ∧ 0 ≤ k ∧ v6 = .int .i64 k ∧ wr = W1)
  case atStart => exact ⟨0, by omega, by omega, rfl, rfl⟩
  case round =>
    obtain ⟨k, hk, h0, rfl, rfl⟩ := hrel
    obtain rfl | rfl | rfl | rfl : k = 0 ∨ k = 1 ∨ k = 2 ∨ k = 3 := by omega
    all_goals first
      | (exfalso; omega)
      | (go_wp2
         go_roundg (gk - 1)
         case measure => omega
         case rel => exact ⟨_, by omega, by omega, rfl, rfl⟩)
      | skip
    go_wp2_with (first
      | ((with_reducible refine gate_dst (N := 29) rfl ?_); refine wpList_load_mid rfl _ _ rfl 1 9 rfl [.int .i64 2, .int .i64 1, .string nm2to1] _ (ht1.range 9 3 rfl) Tryd.underlying91 rfl way_size ?_)
      | (go_at_call 82; (with_reducible refine (does2to1_calls _).mono ?_); rintro e W1 ⟨rfl, hb⟩; have hgr := grown_of_below hb; replace hg1 := hg1.grown hgr (by simp); replace HB := HB.grown hgr (by have := HB.size; omega) (by simp); replace hcg1 := hg1.cell; replace hfg1 := hg1.frozen; clear hb hgr)
      | ((with_reducible refine gate_store (p := 4) rfl ?_); refine ev_store_row (cs := stepCells 2 1 nm2to1 98) rfl rfl rfl hg1 rfl rfl step_size rfl (by simp [stepCells, Value.oneCell']) ?_; intro W2 hgn hgr; replace HB := HB.grown hgr (by have := HB.size; omega) (by intro k e; injection e with e; omega); replace hg1 := hgn; replace hcg1 := hg1.cell; replace hfg1 := hg1.frozen; clear hgn hgr))
    refine bodyPost_ret (results_cell_row rfl _ _ g1 _ _ (0, 0) _ rfl hg1 Tryd.underlying94 rfl step_size) rfl ?_
    exact ⟨rfl, HB⟩
end Go.Proofs.YtikodgaomhmbmaaDoor
