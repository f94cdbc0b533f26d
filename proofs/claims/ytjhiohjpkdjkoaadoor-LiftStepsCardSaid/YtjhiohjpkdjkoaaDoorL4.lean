/-
  The walk of the law LiftSteps.
-/
import Derived.Test.YtjhiohjpkdjkoaaDoorL3
import Derived.LoopN
set_option linter.unusedVariables false
set_option linter.unusedSimpArgs false
namespace Go.Proofs.YtjhiohjpkdjkoaaDoor
open Go.RowKit

set_option maxHeartbeats 4000000 in
set_option maxRecDepth 100000 in
theorem liftSteps11_calls (w : World) (ht : Tab w 2 waysL) :
    Calls Tryd.prog 4 #[.int .i64 1, .int .i64 1] w fun e w' => e = .returned (.bool true) ∧ Below w.heap.size w w' := by
  have HB := Below.refl w.heap.size w
  have Ht := Lib.hid ht
  have nx5 : True := trivial
  have nx6 : True := trivial
  clear ht
  go_enter Tryd.func4, Tryd.ntmps4
  go_wp2_with (first
    | (go_at_call 30; clear nx5; (with_reducible refine (steps_calls' (a := 1) (b := 3) (l := [nm1to2, nm2to3]) (n := 2) rfl rfl _ (Ht.out.next HB)).mono ?_); rintro e W1 ⟨A5, c5, rfl, o5, hb⟩; have hgr := grown_of_below hb; replace o5 := own_mono o5 HB.size; replace HB := HB.grown hgr (by have := HB.size; omega) (by simp); clear hb hgr)
    | (go_at_call 30; clear nx6; (with_reducible refine (steps_calls' (a := 3) (b := 1) (l := [nm3to2, nm2to1]) (n := 2) rfl rfl _ (Ht.out.next HB)).mono ?_); rintro e W2 ⟨A6, c6, rfl, o6, hb⟩; have hgr := grown_of_below hb; have do5o6 := own_apart o5 o6 (Nat.le_refl _); replace o6 := own_mono o6 HB.size; replace o5 := o5.kept hgr (by cases Value.ownBlock _ <;> simp); replace HB := HB.grown hgr (by have := HB.size; omega) (by simp); clear hb hgr)
    | ((with_reducible refine gate_dst (N := 14) rfl ?_); refine ev_lit rfl rfl (#[.string nm1to2, .string nm2to3]) 9 2 (by go_simp; first | done | rfl) ?_; intro g1 W3 hg1 hsz hbn; have hgr := grown_of_below hbn; have zg1 : w.heap.size ≤ g1 := (by have := HB.size; omega); replace o5 := o5.kept hgr (by cases Value.ownBlock _ <;> simp); replace o6 := o6.kept hgr (by cases Value.ownBlock _ <;> simp); replace HB := HB.grown hgr (by have := HB.size; omega) (by simp); have hcg1 := hg1.cell; have hfg1 := hg1.frozen; clear hsz hbn hgr)
    | (go_at_call 31; (with_reducible refine (sameWords_two nm1to2 nm2to3 _ _ _ _ _ (Reads.of_own o5) (hg1.reads (size := 1) (n := 2) rfl)).mono ?_); rintro e W4 ⟨rfl, hb⟩; have hgr := grown_of_below hb; replace hg1 := hg1.grown hgr (by simp); replace o5 := o5.kept hgr (by cases Value.ownBlock _ <;> simp); replace o6 := o6.kept hgr (by cases Value.ownBlock _ <;> simp); replace HB := HB.grown hgr (by have := HB.size; omega) (by simp); replace hcg1 := hg1.cell; replace hfg1 := hg1.frozen; clear hb hgr)
    | ((with_reducible refine gate_dst (N := 19) rfl ?_); refine wpList_ungate (by first | rfl | simp [Region.wanted, yielded]) ?_; refine ev_lit rfl rfl (#[.string nm3to2, .string nm2to1]) 9 2 (by go_simp; first | done | rfl) ?_; intro g2 W5 hg2 hsz hbn; have hgr := grown_of_below hbn; have zg2 : w.heap.size ≤ g2 := (by have := HB.size; omega); replace o5 := o5.kept hgr (by cases Value.ownBlock _ <;> simp); replace o6 := o6.kept hgr (by cases Value.ownBlock _ <;> simp); replace HB := HB.grown hgr (by have := HB.size; omega) (by simp); have hcg2 := hg2.cell; have hfg2 := hg2.frozen; clear hsz hbn hgr)
    | (go_at_call 31; (with_reducible refine (sameWords_two nm3to2 nm2to1 _ _ _ _ _ (Reads.of_own o6) (hg2.reads (size := 1) (n := 2) rfl)).mono ?_); rintro e W6 ⟨rfl, hb⟩; have hgr := grown_of_below hb; replace hg2 := hg2.grown hgr (by simp); replace o5 := o5.kept hgr (by cases Value.ownBlock _ <;> simp); replace o6 := o6.kept hgr (by cases Value.ownBlock _ <;> simp); replace HB := HB.grown hgr (by have := HB.size; omega) (by simp); replace hcg2 := hg2.cell; replace hfg2 := hg2.frozen; clear hb hgr)
    | (go_at_call 30; (with_reducible refine (steps_calls' (a := 1) (b := 1) (l := []) (n := 0) rfl rfl _ (Ht.out.next HB)).mono ?_); rintro e W7 ⟨A7, c7, rfl, o7, hb⟩; have hgr := grown_of_below hb; have do5o7 := own_apart o5 o7 (Nat.le_refl _); have do6o7 := own_apart o6 o7 (Nat.le_refl _); replace o7 := own_mono o7 HB.size; replace o5 := o5.kept hgr (by cases Value.ownBlock _ <;> simp); replace o6 := o6.kept hgr (by cases Value.ownBlock _ <;> simp); replace HB := HB.grown hgr (by have := HB.size; omega) (by simp); clear hb hgr))
  obtain ⟨g5, rfl, z5⟩ := own_at o5 (by decide)
  obtain ⟨g6, rfl, z6⟩ := own_at o6 (by decide)
  have x50 := own_cells o5 (k := 0) (by decide) rfl
  have x51 := own_cells o5 (k := 1) (by decide) rfl
  have x60 := own_cells o6 (k := 0) (by decide) rfl
  have x61 := own_cells o6 (k := 1) (by decide) rfl
  clear o5 o6 o7 do5o6 do5o7 do6o7
  refine wp_loop_rounds (0 + 1) ?_
  rw [rounds_succ]
  go_wp2
  go_ret
  exact ⟨rfl, HB⟩
set_option maxHeartbeats 4000000 in
set_option maxRecDepth 100000 in
theorem liftSteps12_calls (w : World) (ht : Tab w 2 waysL) :
    Calls Tryd.prog 4 #[.int .i64 1, .int .i64 2] w fun e w' => e = .returned (.bool true) ∧ Below w.heap.size w w' := by
  have HB := Below.refl w.heap.size w
  have Ht := Lib.hid ht
  have nx5 : True := trivial
  have nx6 : True := trivial
  clear ht
  go_enter Tryd.func4, Tryd.ntmps4
  go_wp2_with (first
    | (go_at_call 30; clear nx5; (with_reducible refine (steps_calls' (a := 1) (b := 3) (l := [nm1to2, nm2to3]) (n := 2) rfl rfl _ (Ht.out.next HB)).mono ?_); rintro e W1 ⟨A5, c5, rfl, o5, hb⟩; have hgr := grown_of_below hb; replace o5 := own_mono o5 HB.size; replace HB := HB.grown hgr (by have := HB.size; omega) (by simp); clear hb hgr)
    | (go_at_call 30; clear nx6; (with_reducible refine (steps_calls' (a := 3) (b := 1) (l := [nm3to2, nm2to1]) (n := 2) rfl rfl _ (Ht.out.next HB)).mono ?_); rintro e W2 ⟨A6, c6, rfl, o6, hb⟩; have hgr := grown_of_below hb; have do5o6 := own_apart o5 o6 (Nat.le_refl _); replace o6 := own_mono o6 HB.size; replace o5 := o5.kept hgr (by cases Value.ownBlock _ <;> simp); replace HB := HB.grown hgr (by have := HB.size; omega) (by simp); clear hb hgr)
    | ((with_reducible refine gate_dst (N := 14) rfl ?_); refine ev_lit rfl rfl (#[.string nm1to2, .string nm2to3]) 9 2 (by go_simp; first | done | rfl) ?_; intro g1 W3 hg1 hsz hbn; have hgr := grown_of_below hbn; have zg1 : w.heap.size ≤ g1 := (by have := HB.size; omega); replace o5 := o5.kept hgr (by cases Value.ownBlock _ <;> simp); replace o6 := o6.kept hgr (by cases Value.ownBlock _ <;> simp); replace HB := HB.grown hgr (by have := HB.size; omega) (by simp); have hcg1 := hg1.cell; have hfg1 := hg1.frozen; clear hsz hbn hgr)
    | (go_at_call 31; (with_reducible refine (sameWords_two nm1to2 nm2to3 _ _ _ _ _ (Reads.of_own o5) (hg1.reads (size := 1) (n := 2) rfl)).mono ?_); rintro e W4 ⟨rfl, hb⟩; have hgr := grown_of_below hb; replace hg1 := hg1.grown hgr (by simp); replace o5 := o5.kept hgr (by cases Value.ownBlock _ <;> simp); replace o6 := o6.kept hgr (by cases Value.ownBlock _ <;> simp); replace HB := HB.grown hgr (by have := HB.size; omega) (by simp); replace hcg1 := hg1.cell; replace hfg1 := hg1.frozen; clear hb hgr)
    | ((with_reducible refine gate_dst (N := 19) rfl ?_); refine wpList_ungate (by first | rfl | simp [Region.wanted, yielded]) ?_; refine ev_lit rfl rfl (#[.string nm3to2, .string nm2to1]) 9 2 (by go_simp; first | done | rfl) ?_; intro g2 W5 hg2 hsz hbn; have hgr := grown_of_below hbn; have zg2 : w.heap.size ≤ g2 := (by have := HB.size; omega); replace o5 := o5.kept hgr (by cases Value.ownBlock _ <;> simp); replace o6 := o6.kept hgr (by cases Value.ownBlock _ <;> simp); replace HB := HB.grown hgr (by have := HB.size; omega) (by simp); have hcg2 := hg2.cell; have hfg2 := hg2.frozen; clear hsz hbn hgr)
    | (go_at_call 31; (with_reducible refine (sameWords_two nm3to2 nm2to1 _ _ _ _ _ (Reads.of_own o6) (hg2.reads (size := 1) (n := 2) rfl)).mono ?_); rintro e W6 ⟨rfl, hb⟩; have hgr := grown_of_below hb; replace hg2 := hg2.grown hgr (by simp); replace o5 := o5.kept hgr (by cases Value.ownBlock _ <;> simp); replace o6 := o6.kept hgr (by cases Value.ownBlock _ <;> simp); replace HB := HB.grown hgr (by have := HB.size; omega) (by simp); replace hcg2 := hg2.cell; replace hfg2 := hg2.frozen; clear hb hgr)
    | (go_at_call 30; (with_reducible refine (steps_calls' (a := 1) (b := 2) (l := [nm1to2]) (n := 1) rfl rfl _ (Ht.out.next HB)).mono ?_); rintro e W7 ⟨A7, c7, rfl, o7, hb⟩; have hgr := grown_of_below hb; have do5o7 := own_apart o5 o7 (Nat.le_refl _); have do6o7 := own_apart o6 o7 (Nat.le_refl _); replace o7 := own_mono o7 HB.size; replace o5 := o5.kept hgr (by cases Value.ownBlock _ <;> simp); replace o6 := o6.kept hgr (by cases Value.ownBlock _ <;> simp); replace HB := HB.grown hgr (by have := HB.size; omega) (by simp); clear hb hgr))
  obtain ⟨g5, rfl, z5⟩ := own_at o5 (by decide)
  obtain ⟨g6, rfl, z6⟩ := own_at o6 (by decide)
  have x50 := own_cells o5 (k := 0) (by decide) rfl
  have x51 := own_cells o5 (k := 1) (by decide) rfl
  have x60 := own_cells o6 (k := 0) (by decide) rfl
  have x61 := own_cells o6 (k := 1) (by decide) rfl
  obtain ⟨g7, rfl, z7⟩ := own_at o7 (by decide)
  have x70 := own_cells o7 (k := 0) (by decide) rfl
  clear o5 o6 o7 do5o6 do5o7 do6o7
  refine wp_loop_rounds (1 + 1) ?_
  rw [rounds_succ]
  go_wp2
  rw [rounds_succ]
  go_wp2
  go_ret
  exact ⟨rfl, HB⟩
set_option maxHeartbeats 4000000 in
set_option maxRecDepth 100000 in
theorem liftSteps13_calls (w : World) (ht : Tab w 2 waysL) :
    Calls Tryd.prog 4 #[.int .i64 1, .int .i64 3] w fun e w' => e = .returned (.bool true) ∧ Below w.heap.size w w' := by
  have HB := Below.refl w.heap.size w
  have Ht := Lib.hid ht
  have nx5 : True := trivial
  have nx6 : True := trivial
  clear ht
  go_enter Tryd.func4, Tryd.ntmps4
  go_wp2_with (first
    | (go_at_call 30; clear nx5; (with_reducible refine (steps_calls' (a := 1) (b := 3) (l := [nm1to2, nm2to3]) (n := 2) rfl rfl _ (Ht.out.next HB)).mono ?_); rintro e W1 ⟨A5, c5, rfl, o5, hb⟩; have hgr := grown_of_below hb; replace o5 := own_mono o5 HB.size; replace HB := HB.grown hgr (by have := HB.size; omega) (by simp); clear hb hgr)
    | (go_at_call 30; clear nx6; (with_reducible refine (steps_calls' (a := 3) (b := 1) (l := [nm3to2, nm2to1]) (n := 2) rfl rfl _ (Ht.out.next HB)).mono ?_); rintro e W2 ⟨A6, c6, rfl, o6, hb⟩; have hgr := grown_of_below hb; have do5o6 := own_apart o5 o6 (Nat.le_refl _); replace o6 := own_mono o6 HB.size; replace o5 := o5.kept hgr (by cases Value.ownBlock _ <;> simp); replace HB := HB.grown hgr (by have := HB.size; omega) (by simp); clear hb hgr)
    | ((with_reducible refine gate_dst (N := 14) rfl ?_); refine ev_lit rfl rfl (#[.string nm1to2, .string nm2to3]) 9 2 (by go_simp; first | done | rfl) ?_; intro g1 W3 hg1 hsz hbn; have hgr := grown_of_below hbn; have zg1 : w.heap.size ≤ g1 := (by have := HB.size; omega); replace o5 := o5.kept hgr (by cases Value.ownBlock _ <;> simp); replace o6 := o6.kept hgr (by cases Value.ownBlock _ <;> simp); replace HB := HB.grown hgr (by have := HB.size; omega) (by simp); have hcg1 := hg1.cell; have hfg1 := hg1.frozen; clear hsz hbn hgr)
    | (go_at_call 31; (with_reducible refine (sameWords_two nm1to2 nm2to3 _ _ _ _ _ (Reads.of_own o5) (hg1.reads (size := 1) (n := 2) rfl)).mono ?_); rintro e W4 ⟨rfl, hb⟩; have hgr := grown_of_below hb; replace hg1 := hg1.grown hgr (by simp); replace o5 := o5.kept hgr (by cases Value.ownBlock _ <;> simp); replace o6 := o6.kept hgr (by cases Value.ownBlock _ <;> simp); replace HB := HB.grown hgr (by have := HB.size; omega) (by simp); replace hcg1 := hg1.cell; replace hfg1 := hg1.frozen; clear hb hgr)
    | ((with_reducible refine gate_dst (N := 19) rfl ?_); refine wpList_ungate (by first | rfl | simp [Region.wanted, yielded]) ?_; refine ev_lit rfl rfl (#[.string nm3to2, .string nm2to1]) 9 2 (by go_simp; first | done | rfl) ?_; intro g2 W5 hg2 hsz hbn; have hgr := grown_of_below hbn; have zg2 : w.heap.size ≤ g2 := (by have := HB.size; omega); replace o5 := o5.kept hgr (by cases Value.ownBlock _ <;> simp); replace o6 := o6.kept hgr (by cases Value.ownBlock _ <;> simp); replace HB := HB.grown hgr (by have := HB.size; omega) (by simp); have hcg2 := hg2.cell; have hfg2 := hg2.frozen; clear hsz hbn hgr)
    | (go_at_call 31; (with_reducible refine (sameWords_two nm3to2 nm2to1 _ _ _ _ _ (Reads.of_own o6) (hg2.reads (size := 1) (n := 2) rfl)).mono ?_); rintro e W6 ⟨rfl, hb⟩; have hgr := grown_of_below hb; replace hg2 := hg2.grown hgr (by simp); replace o5 := o5.kept hgr (by cases Value.ownBlock _ <;> simp); replace o6 := o6.kept hgr (by cases Value.ownBlock _ <;> simp); replace HB := HB.grown hgr (by have := HB.size; omega) (by simp); replace hcg2 := hg2.cell; replace hfg2 := hg2.frozen; clear hb hgr)
    | (go_at_call 30; (with_reducible refine (steps_calls' (a := 1) (b := 3) (l := [nm1to2, nm2to3]) (n := 2) rfl rfl _ (Ht.out.next HB)).mono ?_); rintro e W7 ⟨A7, c7, rfl, o7, hb⟩; have hgr := grown_of_below hb; have do5o7 := own_apart o5 o7 (Nat.le_refl _); have do6o7 := own_apart o6 o7 (Nat.le_refl _); replace o7 := own_mono o7 HB.size; replace o5 := o5.kept hgr (by cases Value.ownBlock _ <;> simp); replace o6 := o6.kept hgr (by cases Value.ownBlock _ <;> simp); replace HB := HB.grown hgr (by have := HB.size; omega) (by simp); clear hb hgr))
  obtain ⟨g5, rfl, z5⟩ := own_at o5 (by decide)
  obtain ⟨g6, rfl, z6⟩ := own_at o6 (by decide)
  have x50 := own_cells o5 (k := 0) (by decide) rfl
  have x51 := own_cells o5 (k := 1) (by decide) rfl
  have x60 := own_cells o6 (k := 0) (by decide) rfl
  have x61 := own_cells o6 (k := 1) (by decide) rfl
  obtain ⟨g7, rfl, z7⟩ := own_at o7 (by decide)
  have x70 := own_cells o7 (k := 0) (by decide) rfl
  have x71 := own_cells o7 (k := 1) (by decide) rfl
  clear o5 o6 o7 do5o6 do5o7 do6o7
  refine wp_loop_rounds (2 + 1) ?_
  rw [rounds_succ]
  go_wp2
  rw [rounds_succ]
  go_wp2
  rw [rounds_succ]
  go_wp2
  go_ret
  exact ⟨rfl, HB⟩
set_option maxHeartbeats 4000000 in
set_option maxRecDepth 100000 in
theorem liftSteps21_calls (w : World) (ht : Tab w 2 waysL) :
    Calls Tryd.prog 4 #[.int .i64 2, .int .i64 1] w fun e w' => e = .returned (.bool true) ∧ Below w.heap.size w w' := by
  have HB := Below.refl w.heap.size w
  have Ht := Lib.hid ht
  have nx5 : True := trivial
  have nx6 : True := trivial
  clear ht
  go_enter Tryd.func4, Tryd.ntmps4
  go_wp2_with (first
    | (go_at_call 30; clear nx5; (with_reducible refine (steps_calls' (a := 1) (b := 3) (l := [nm1to2, nm2to3]) (n := 2) rfl rfl _ (Ht.out.next HB)).mono ?_); rintro e W1 ⟨A5, c5, rfl, o5, hb⟩; have hgr := grown_of_below hb; replace o5 := own_mono o5 HB.size; replace HB := HB.grown hgr (by have := HB.size; omega) (by simp); clear hb hgr)
    | (go_at_call 30; clear nx6; (with_reducible refine (steps_calls' (a := 3) (b := 1) (l := [nm3to2, nm2to1]) (n := 2) rfl rfl _ (Ht.out.next HB)).mono ?_); rintro e W2 ⟨A6, c6, rfl, o6, hb⟩; have hgr := grown_of_below hb; have do5o6 := own_apart o5 o6 (Nat.le_refl _); replace o6 := own_mono o6 HB.size; replace o5 := o5.kept hgr (by cases Value.ownBlock _ <;> simp); replace HB := HB.grown hgr (by have := HB.size; omega) (by simp); clear hb hgr)
    | ((with_reducible refine gate_dst (N := 14) rfl ?_); refine ev_lit rfl rfl (#[.string nm1to2, .string nm2to3]) 9 2 (by go_simp; first | done | rfl) ?_; intro g1 W3 hg1 hsz hbn; have hgr := grown_of_below hbn; have zg1 : w.heap.size ≤ g1 := (by have := HB.size; omega); replace o5 := o5.kept hgr (by cases Value.ownBlock _ <;> simp); replace o6 := o6.kept hgr (by cases Value.ownBlock _ <;> simp); replace HB := HB.grown hgr (by have := HB.size; omega) (by simp); have hcg1 := hg1.cell; have hfg1 := hg1.frozen; clear hsz hbn hgr)
    | (go_at_call 31; (with_reducible refine (sameWords_two nm1to2 nm2to3 _ _ _ _ _ (Reads.of_own o5) (hg1.reads (size := 1) (n := 2) rfl)).mono ?_); rintro e W4 ⟨rfl, hb⟩; have hgr := grown_of_below hb; replace hg1 := hg1.grown hgr (by simp); replace o5 := o5.kept hgr (by cases Value.ownBlock _ <;> simp); replace o6 := o6.kept hgr (by cases Value.ownBlock _ <;> simp); replace HB := HB.grown hgr (by have := HB.size; omega) (by simp); replace hcg1 := hg1.cell; replace hfg1 := hg1.frozen; clear hb hgr)
    | ((with_reducible refine gate_dst (N := 19) rfl ?_); refine wpList_ungate (by first | rfl | simp [Region.wanted, yielded]) ?_; refine ev_lit rfl rfl (#[.string nm3to2, .string nm2to1]) 9 2 (by go_simp; first | done | rfl) ?_; intro g2 W5 hg2 hsz hbn; have hgr := grown_of_below hbn; have zg2 : w.heap.size ≤ g2 := (by have := HB.size; omega); replace o5 := o5.kept hgr (by cases Value.ownBlock _ <;> simp); replace o6 := o6.kept hgr (by cases Value.ownBlock _ <;> simp); replace HB := HB.grown hgr (by have := HB.size; omega) (by simp); have hcg2 := hg2.cell; have hfg2 := hg2.frozen; clear hsz hbn hgr)
    | (go_at_call 31; (with_reducible refine (sameWords_two nm3to2 nm2to1 _ _ _ _ _ (Reads.of_own o6) (hg2.reads (size := 1) (n := 2) rfl)).mono ?_); rintro e W6 ⟨rfl, hb⟩; have hgr := grown_of_below hb; replace hg2 := hg2.grown hgr (by simp); replace o5 := o5.kept hgr (by cases Value.ownBlock _ <;> simp); replace o6 := o6.kept hgr (by cases Value.ownBlock _ <;> simp); replace HB := HB.grown hgr (by have := HB.size; omega) (by simp); replace hcg2 := hg2.cell; replace hfg2 := hg2.frozen; clear hb hgr)
    | (go_at_call 30; (with_reducible refine (steps_calls' (a := 2) (b := 1) (l := [nm2to1]) (n := 1) rfl rfl _ (Ht.out.next HB)).mono ?_); rintro e W7 ⟨A7, c7, rfl, o7, hb⟩; have hgr := grown_of_below hb; have do5o7 := own_apart o5 o7 (Nat.le_refl _); have do6o7 := own_apart o6 o7 (Nat.le_refl _); replace o7 := own_mono o7 HB.size; replace o5 := o5.kept hgr (by cases Value.ownBlock _ <;> simp); replace o6 := o6.kept hgr (by cases Value.ownBlock _ <;> simp); replace HB := HB.grown hgr (by have := HB.size; omega) (by simp); clear hb hgr))
  obtain ⟨g5, rfl, z5⟩ := own_at o5 (by decide)
  obtain ⟨g6, rfl, z6⟩ := own_at o6 (by decide)
  have x50 := own_cells o5 (k := 0) (by decide) rfl
  have x51 := own_cells o5 (k := 1) (by decide) rfl
  have x60 := own_cells o6 (k := 0) (by decide) rfl
  have x61 := own_cells o6 (k := 1) (by decide) rfl
  obtain ⟨g7, rfl, z7⟩ := own_at o7 (by decide)
  have x70 := own_cells o7 (k := 0) (by decide) rfl
  clear o5 o6 o7 do5o6 do5o7 do6o7
  refine wp_loop_rounds (1 + 1) ?_
  rw [rounds_succ]
  go_wp2
  rw [rounds_succ]
  go_wp2
  go_ret
  exact ⟨rfl, HB⟩
set_option maxHeartbeats 4000000 in
set_option maxRecDepth 100000 in
theorem liftSteps22_calls (w : World) (ht : Tab w 2 waysL) :
    Calls Tryd.prog 4 #[.int .i64 2, .int .i64 2] w fun e w' => e = .returned (.bool true) ∧ Below w.heap.size w w' := by
  have HB := Below.refl w.heap.size w
  have Ht := Lib.hid ht
  have nx5 : True := trivial
  have nx6 : True := trivial
  clear ht
  go_enter Tryd.func4, Tryd.ntmps4
  go_wp2_with (first
    | (go_at_call 30; clear nx5; (with_reducible refine (steps_calls' (a := 1) (b := 3) (l := [nm1to2, nm2to3]) (n := 2) rfl rfl _ (Ht.out.next HB)).mono ?_); rintro e W1 ⟨A5, c5, rfl, o5, hb⟩; have hgr := grown_of_below hb; replace o5 := own_mono o5 HB.size; replace HB := HB.grown hgr (by have := HB.size; omega) (by simp); clear hb hgr)
    | (go_at_call 30; clear nx6; (with_reducible refine (steps_calls' (a := 3) (b := 1) (l := [nm3to2, nm2to1]) (n := 2) rfl rfl _ (Ht.out.next HB)).mono ?_); rintro e W2 ⟨A6, c6, rfl, o6, hb⟩; have hgr := grown_of_below hb; have do5o6 := own_apart o5 o6 (Nat.le_refl _); replace o6 := own_mono o6 HB.size; replace o5 := o5.kept hgr (by cases Value.ownBlock _ <;> simp); replace HB := HB.grown hgr (by have := HB.size; omega) (by simp); clear hb hgr)
    | ((with_reducible refine gate_dst (N := 14) rfl ?_); refine ev_lit rfl rfl (#[.string nm1to2, .string nm2to3]) 9 2 (by go_simp; first | done | rfl) ?_; intro g1 W3 hg1 hsz hbn; have hgr := grown_of_below hbn; have zg1 : w.heap.size ≤ g1 := (by have := HB.size; omega); replace o5 := o5.kept hgr (by cases Value.ownBlock _ <;> simp); replace o6 := o6.kept hgr (by cases Value.ownBlock _ <;> simp); replace HB := HB.grown hgr (by have := HB.size; omega) (by simp); have hcg1 := hg1.cell; have hfg1 := hg1.frozen; clear hsz hbn hgr)
    | (go_at_call 31; (with_reducible refine (sameWords_two nm1to2 nm2to3 _ _ _ _ _ (Reads.of_own o5) (hg1.reads (size := 1) (n := 2) rfl)).mono ?_); rintro e W4 ⟨rfl, hb⟩; have hgr := grown_of_below hb; replace hg1 := hg1.grown hgr (by simp); replace o5 := o5.kept hgr (by cases Value.ownBlock _ <;> simp); replace o6 := o6.kept hgr (by cases Value.ownBlock _ <;> simp); replace HB := HB.grown hgr (by have := HB.size; omega) (by simp); replace hcg1 := hg1.cell; replace hfg1 := hg1.frozen; clear hb hgr)
    | ((with_reducible refine gate_dst (N := 19) rfl ?_); refine wpList_ungate (by first | rfl | simp [Region.wanted, yielded]) ?_; refine ev_lit rfl rfl (#[.string nm3to2, .string nm2to1]) 9 2 (by go_simp; first | done | rfl) ?_; intro g2 W5 hg2 hsz hbn; have hgr := grown_of_below hbn; have zg2 : w.heap.size ≤ g2 := (by have := HB.size; omega); replace o5 := o5.kept hgr (by cases Value.ownBlock _ <;> simp); replace o6 := o6.kept hgr (by cases Value.ownBlock _ <;> simp); replace HB := HB.grown hgr (by have := HB.size; omega) (by simp); have hcg2 := hg2.cell; have hfg2 := hg2.frozen; clear hsz hbn hgr)
    | (go_at_call 31; (with_reducible refine (sameWords_two nm3to2 nm2to1 _ _ _ _ _ (Reads.of_own o6) (hg2.reads (size := 1) (n := 2) rfl)).mono ?_); rintro e W6 ⟨rfl, hb⟩; have hgr := grown_of_below hb; replace hg2 := hg2.grown hgr (by simp); replace o5 := o5.kept hgr (by cases Value.ownBlock _ <;> simp); replace o6 := o6.kept hgr (by cases Value.ownBlock _ <;> simp); replace HB := HB.grown hgr (by have := HB.size; omega) (by simp); replace hcg2 := hg2.cell; replace hfg2 := hg2.frozen; clear hb hgr)
    | (go_at_call 30; (with_reducible refine (steps_calls' (a := 2) (b := 2) (l := []) (n := 0) rfl rfl _ (Ht.out.next HB)).mono ?_); rintro e W7 ⟨A7, c7, rfl, o7, hb⟩; have hgr := grown_of_below hb; have do5o7 := own_apart o5 o7 (Nat.le_refl _); have do6o7 := own_apart o6 o7 (Nat.le_refl _); replace o7 := own_mono o7 HB.size; replace o5 := o5.kept hgr (by cases Value.ownBlock _ <;> simp); replace o6 := o6.kept hgr (by cases Value.ownBlock _ <;> simp); replace HB := HB.grown hgr (by have := HB.size; omega) (by simp); clear hb hgr))
  obtain ⟨g5, rfl, z5⟩ := own_at o5 (by decide)
  obtain ⟨g6, rfl, z6⟩ := own_at o6 (by decide)
  have x50 := own_cells o5 (k := 0) (by decide) rfl
  have x51 := own_cells o5 (k := 1) (by decide) rfl
  have x60 := own_cells o6 (k := 0) (by decide) rfl
  have x61 := own_cells o6 (k := 1) (by decide) rfl
  clear o5 o6 o7 do5o6 do5o7 do6o7
  refine wp_loop_rounds (0 + 1) ?_
  rw [rounds_succ]
  go_wp2
  go_ret
  exact ⟨rfl, HB⟩
set_option maxHeartbeats 4000000 in
set_option maxRecDepth 100000 in
theorem liftSteps23_calls (w : World) (ht : Tab w 2 waysL) :
    Calls Tryd.prog 4 #[.int .i64 2, .int .i64 3] w fun e w' => e = .returned (.bool true) ∧ Below w.heap.size w w' := by
  have HB := Below.refl w.heap.size w
  have Ht := Lib.hid ht
  have nx5 : True := trivial
  have nx6 : True := trivial
  clear ht
  go_enter Tryd.func4, Tryd.ntmps4
  go_wp2_with (first
    | (go_at_call 30; clear nx5; (with_reducible refine (steps_calls' (a := 1) (b := 3) (l := [nm1to2, nm2to3]) (n := 2) rfl rfl _ (Ht.out.next HB)).mono ?_); rintro e W1 ⟨A5, c5, rfl, o5, hb⟩; have hgr := grown_of_below hb; replace o5 := own_mono o5 HB.size; replace HB := HB.grown hgr (by have := HB.size; omega) (by simp); clear hb hgr)
    | (go_at_call 30; clear nx6; (with_reducible refine (steps_calls' (a := 3) (b := 1) (l := [nm3to2, nm2to1]) (n := 2) rfl rfl _ (Ht.out.next HB)).mono ?_); rintro e W2 ⟨A6, c6, rfl, o6, hb⟩; have hgr := grown_of_below hb; have do5o6 := own_apart o5 o6 (Nat.le_refl _); replace o6 := own_mono o6 HB.size; replace o5 := o5.kept hgr (by cases Value.ownBlock _ <;> simp); replace HB := HB.grown hgr (by have := HB.size; omega) (by simp); clear hb hgr)
    | ((with_reducible refine gate_dst (N := 14) rfl ?_); refine ev_lit rfl rfl (#[.string nm1to2, .string nm2to3]) 9 2 (by go_simp; first | done | rfl) ?_; intro g1 W3 hg1 hsz hbn; have hgr := grown_of_below hbn; have zg1 : w.heap.size ≤ g1 := (by have := HB.size; omega); replace o5 := o5.kept hgr (by cases Value.ownBlock _ <;> simp); replace o6 := o6.kept hgr (by cases Value.ownBlock _ <;> simp); replace HB := HB.grown hgr (by have := HB.size; omega) (by simp); have hcg1 := hg1.cell; have hfg1 := hg1.frozen; clear hsz hbn hgr)
    | (go_at_call 31; (with_reducible refine (sameWords_two nm1to2 nm2to3 _ _ _ _ _ (Reads.of_own o5) (hg1.reads (size := 1) (n := 2) rfl)).mono ?_); rintro e W4 ⟨rfl, hb⟩; have hgr := grown_of_below hb; replace hg1 := hg1.grown hgr (by simp); replace o5 := o5.kept hgr (by cases Value.ownBlock _ <;> simp); replace o6 := o6.kept hgr (by cases Value.ownBlock _ <;> simp); replace HB := HB.grown hgr (by have := HB.size; omega) (by simp); replace hcg1 := hg1.cell; replace hfg1 := hg1.frozen; clear hb hgr)
    | ((with_reducible refine gate_dst (N := 19) rfl ?_); refine wpList_ungate (by first | rfl | simp [Region.wanted, yielded]) ?_; refine ev_lit rfl rfl (#[.string nm3to2, .string nm2to1]) 9 2 (by go_simp; first | done | rfl) ?_; intro g2 W5 hg2 hsz hbn; have hgr := grown_of_below hbn; have zg2 : w.heap.size ≤ g2 := (by have := HB.size; omega); replace o5 := o5.kept hgr (by cases Value.ownBlock _ <;> simp); replace o6 := o6.kept hgr (by cases Value.ownBlock _ <;> simp); replace HB := HB.grown hgr (by have := HB.size; omega) (by simp); have hcg2 := hg2.cell; have hfg2 := hg2.frozen; clear hsz hbn hgr)
    | (go_at_call 31; (with_reducible refine (sameWords_two nm3to2 nm2to1 _ _ _ _ _ (Reads.of_own o6) (hg2.reads (size := 1) (n := 2) rfl)).mono ?_); rintro e W6 ⟨rfl, hb⟩; have hgr := grown_of_below hb; replace hg2 := hg2.grown hgr (by simp); replace o5 := o5.kept hgr (by cases Value.ownBlock _ <;> simp); replace o6 := o6.kept hgr (by cases Value.ownBlock _ <;> simp); replace HB := HB.grown hgr (by have := HB.size; omega) (by simp); replace hcg2 := hg2.cell; replace hfg2 := hg2.frozen; clear hb hgr)
    | (go_at_call 30; (with_reducible refine (steps_calls' (a := 2) (b := 3) (l := [nm2to3]) (n := 1) rfl rfl _ (Ht.out.next HB)).mono ?_); rintro e W7 ⟨A7, c7, rfl, o7, hb⟩; have hgr := grown_of_below hb; have do5o7 := own_apart o5 o7 (Nat.le_refl _); have do6o7 := own_apart o6 o7 (Nat.le_refl _); replace o7 := own_mono o7 HB.size; replace o5 := o5.kept hgr (by cases Value.ownBlock _ <;> simp); replace o6 := o6.kept hgr (by cases Value.ownBlock _ <;> simp); replace HB := HB.grown hgr (by have := HB.size; omega) (by simp); clear hb hgr))
  obtain ⟨g5, rfl, z5⟩ := own_at o5 (by decide)
  obtain ⟨g6, rfl, z6⟩ := own_at o6 (by decide)
  have x50 := own_cells o5 (k := 0) (by decide) rfl
  have x51 := own_cells o5 (k := 1) (by decide) rfl
  have x60 := own_cells o6 (k := 0) (by decide) rfl
  have x61 := own_cells o6 (k := 1) (by decide) rfl
  obtain ⟨g7, rfl, z7⟩ := own_at o7 (by decide)
  have x70 := own_cells o7 (k := 0) (by decide) rfl
  clear o5 o6 o7 do5o6 do5o7 do6o7
  refine wp_loop_rounds (1 + 1) ?_
  rw [rounds_succ]
  go_wp2
  rw [rounds_succ]
  go_wp2
  go_ret
  exact ⟨rfl, HB⟩
set_option maxHeartbeats 4000000 in
set_option maxRecDepth 100000 in
theorem liftSteps31_calls (w : World) (ht : Tab w 2 waysL) :
    Calls Tryd.prog 4 #[.int .i64 3, .int .i64 1] w fun e w' => e = .returned (.bool true) ∧ Below w.heap.size w w' := by
  have HB := Below.refl w.heap.size w
  have Ht := Lib.hid ht
  have nx5 : True := trivial
  have nx6 : True := trivial
  clear ht
  go_enter Tryd.func4, Tryd.ntmps4
  go_wp2_with (first
    | (go_at_call 30; clear nx5; (with_reducible refine (steps_calls' (a := 1) (b := 3) (l := [nm1to2, nm2to3]) (n := 2) rfl rfl _ (Ht.out.next HB)).mono ?_); rintro e W1 ⟨A5, c5, rfl, o5, hb⟩; have hgr := grown_of_below hb; replace o5 := own_mono o5 HB.size; replace HB := HB.grown hgr (by have := HB.size; omega) (by simp); clear hb hgr)
    | (go_at_call 30; clear nx6; (with_reducible refine (steps_calls' (a := 3) (b := 1) (l := [nm3to2, nm2to1]) (n := 2) rfl rfl _ (Ht.out.next HB)).mono ?_); rintro e W2 ⟨A6, c6, rfl, o6, hb⟩; have hgr := grown_of_below hb; have do5o6 := own_apart o5 o6 (Nat.le_refl _); replace o6 := own_mono o6 HB.size; replace o5 := o5.kept hgr (by cases Value.ownBlock _ <;> simp); replace HB := HB.grown hgr (by have := HB.size; omega) (by simp); clear hb hgr)
    | ((with_reducible refine gate_dst (N := 14) rfl ?_); refine ev_lit rfl rfl (#[.string nm1to2, .string nm2to3]) 9 2 (by go_simp; first | done | rfl) ?_; intro g1 W3 hg1 hsz hbn; have hgr := grown_of_below hbn; have zg1 : w.heap.size ≤ g1 := (by have := HB.size; omega); replace o5 := o5.kept hgr (by cases Value.ownBlock _ <;> simp); replace o6 := o6.kept hgr (by cases Value.ownBlock _ <;> simp); replace HB := HB.grown hgr (by have := HB.size; omega) (by simp); have hcg1 := hg1.cell; have hfg1 := hg1.frozen; clear hsz hbn hgr)
    | (go_at_call 31; (with_reducible refine (sameWords_two nm1to2 nm2to3 _ _ _ _ _ (Reads.of_own o5) (hg1.reads (size := 1) (n := 2) rfl)).mono ?_); rintro e W4 ⟨rfl, hb⟩; have hgr := grown_of_below hb; replace hg1 := hg1.grown hgr (by simp); replace o5 := o5.kept hgr (by cases Value.ownBlock _ <;> simp); replace o6 := o6.kept hgr (by cases Value.ownBlock _ <;> simp); replace HB := HB.grown hgr (by have := HB.size; omega) (by simp); replace hcg1 := hg1.cell; replace hfg1 := hg1.frozen; clear hb hgr)
    | ((with_reducible refine gate_dst (N := 19) rfl ?_); refine wpList_ungate (by first | rfl | simp [Region.wanted, yielded]) ?_; refine ev_lit rfl rfl (#[.string nm3to2, .string nm2to1]) 9 2 (by go_simp; first | done | rfl) ?_; intro g2 W5 hg2 hsz hbn; have hgr := grown_of_below hbn; have zg2 : w.heap.size ≤ g2 := (by have := HB.size; omega); replace o5 := o5.kept hgr (by cases Value.ownBlock _ <;> simp); replace o6 := o6.kept hgr (by cases Value.ownBlock _ <;> simp); replace HB := HB.grown hgr (by have := HB.size; omega) (by simp); have hcg2 := hg2.cell; have hfg2 := hg2.frozen; clear hsz hbn hgr)
    | (go_at_call 31; (with_reducible refine (sameWords_two nm3to2 nm2to1 _ _ _ _ _ (Reads.of_own o6) (hg2.reads (size := 1) (n := 2) rfl)).mono ?_); rintro e W6 ⟨rfl, hb⟩; have hgr := grown_of_below hb; replace hg2 := hg2.grown hgr (by simp); replace o5 := o5.kept hgr (by cases Value.ownBlock _ <;> simp); replace o6 := o6.kept hgr (by cases Value.ownBlock _ <;> simp); replace HB := HB.grown hgr (by have := HB.size; omega) (by simp); replace hcg2 := hg2.cell; replace hfg2 := hg2.frozen; clear hb hgr)
    | (go_at_call 30; (with_reducible refine (steps_calls' (a := 3) (b := 1) (l := [nm3to2, nm2to1]) (n := 2) rfl rfl _ (Ht.out.next HB)).mono ?_); rintro e W7 ⟨A7, c7, rfl, o7, hb⟩; have hgr := grown_of_below hb; have do5o7 := own_apart o5 o7 (Nat.le_refl _); have do6o7 := own_apart o6 o7 (Nat.le_refl _); replace o7 := own_mono o7 HB.size; replace o5 := o5.kept hgr (by cases Value.ownBlock _ <;> simp); replace o6 := o6.kept hgr (by cases Value.ownBlock _ <;> simp); replace HB := HB.grown hgr (by have := HB.size; omega) (by simp); clear hb hgr))
  obtain ⟨g5, rfl, z5⟩ := own_at o5 (by decide)
  obtain ⟨g6, rfl, z6⟩ := own_at o6 (by decide)
  have x50 := own_cells o5 (k := 0) (by decide) rfl
  have x51 := own_cells o5 (k := 1) (by decide) rfl
  have x60 := own_cells o6 (k := 0) (by decide) rfl
  have x61 := own_cells o6 (k := 1) (by decide) rfl
  obtain ⟨g7, rfl, z7⟩ := own_at o7 (by decide)
  have x70 := own_cells o7 (k := 0) (by decide) rfl
  have x71 := own_cells o7 (k := 1) (by decide) rfl
  clear o5 o6 o7 do5o6 do5o7 do6o7
  refine wp_loop_rounds (2 + 1) ?_
  rw [rounds_succ]
  go_wp2
  rw [rounds_succ]
  go_wp2
  rw [rounds_succ]
  go_wp2
  go_ret
  exact ⟨rfl, HB⟩
set_option maxHeartbeats 4000000 in
set_option maxRecDepth 100000 in
theorem liftSteps32_calls (w : World) (ht : Tab w 2 waysL) :
    Calls Tryd.prog 4 #[.int .i64 3, .int .i64 2] w fun e w' => e = .returned (.bool true) ∧ Below w.heap.size w w' := by
  have HB := Below.refl w.heap.size w
  have Ht := Lib.hid ht
  have nx5 : True := trivial
  have nx6 : True := trivial
  clear ht
  go_enter Tryd.func4, Tryd.ntmps4
  go_wp2_with (first
    | (go_at_call 30; clear nx5; (with_reducible refine (steps_calls' (a := 1) (b := 3) (l := [nm1to2, nm2to3]) (n := 2) rfl rfl _ (Ht.out.next HB)).mono ?_); rintro e W1 ⟨A5, c5, rfl, o5, hb⟩; have hgr := grown_of_below hb; replace o5 := own_mono o5 HB.size; replace HB := HB.grown hgr (by have := HB.size; omega) (by simp); clear hb hgr)
    | (go_at_call 30; clear nx6; (with_reducible refine (steps_calls' (a := 3) (b := 1) (l := [nm3to2, nm2to1]) (n := 2) rfl rfl _ (Ht.out.next HB)).mono ?_); rintro e W2 ⟨A6, c6, rfl, o6, hb⟩; have hgr := grown_of_below hb; have do5o6 := own_apart o5 o6 (Nat.le_refl _); replace o6 := own_mono o6 HB.size; replace o5 := o5.kept hgr (by cases Value.ownBlock _ <;> simp); replace HB := HB.grown hgr (by have := HB.size; omega) (by simp); clear hb hgr)
    | ((with_reducible refine gate_dst (N := 14) rfl ?_); refine ev_lit rfl rfl (#[.string nm1to2, .string nm2to3]) 9 2 (by go_simp; first | done | rfl) ?_; intro g1 W3 hg1 hsz hbn; have hgr := grown_of_below hbn; have zg1 : w.heap.size ≤ g1 := (by have := HB.size; omega); replace o5 := o5.kept hgr (by cases Value.ownBlock _ <;> simp); replace o6 := o6.kept hgr (by cases Value.ownBlock _ <;> simp); replace HB := HB.grown hgr (by have := HB.size; omega) (by simp); have hcg1 := hg1.cell; have hfg1 := hg1.frozen; clear hsz hbn hgr)
    | (go_at_call 31; (with_reducible refine (sameWords_two nm1to2 nm2to3 _ _ _ _ _ (Reads.of_own o5) (hg1.reads (size := 1) (n := 2) rfl)).mono ?_); rintro e W4 ⟨rfl, hb⟩; have hgr := grown_of_below hb; replace hg1 := hg1.grown hgr (by simp); replace o5 := o5.kept hgr (by cases Value.ownBlock _ <;> simp); replace o6 := o6.kept hgr (by cases Value.ownBlock _ <;> simp); replace HB := HB.grown hgr (by have := HB.size; omega) (by simp); replace hcg1 := hg1.cell; replace hfg1 := hg1.frozen; clear hb hgr)
    | ((with_reducible refine gate_dst (N := 19) rfl ?_); refine wpList_ungate (by first | rfl | simp [Region.wanted, yielded]) ?_; refine ev_lit rfl rfl (#[.string nm3to2, .string nm2to1]) 9 2 (by go_simp; first | done | rfl) ?_; intro g2 W5 hg2 hsz hbn; have hgr := grown_of_below hbn; have zg2 : w.heap.size ≤ g2 := (by have := HB.size; omega); replace o5 := o5.kept hgr (by cases Value.ownBlock _ <;> simp); replace o6 := o6.kept hgr (by cases Value.ownBlock _ <;> simp); replace HB := HB.grown hgr (by have := HB.size; omega) (by simp); have hcg2 := hg2.cell; have hfg2 := hg2.frozen; clear hsz hbn hgr)
    | (go_at_call 31; (with_reducible refine (sameWords_two nm3to2 nm2to1 _ _ _ _ _ (Reads.of_own o6) (hg2.reads (size := 1) (n := 2) rfl)).mono ?_); rintro e W6 ⟨rfl, hb⟩; have hgr := grown_of_below hb; replace hg2 := hg2.grown hgr (by simp); replace o5 := o5.kept hgr (by cases Value.ownBlock _ <;> simp); replace o6 := o6.kept hgr (by cases Value.ownBlock _ <;> simp); replace HB := HB.grown hgr (by have := HB.size; omega) (by simp); replace hcg2 := hg2.cell; replace hfg2 := hg2.frozen; clear hb hgr)
    | (go_at_call 30; (with_reducible refine (steps_calls' (a := 3) (b := 2) (l := [nm3to2]) (n := 1) rfl rfl _ (Ht.out.next HB)).mono ?_); rintro e W7 ⟨A7, c7, rfl, o7, hb⟩; have hgr := grown_of_below hb; have do5o7 := own_apart o5 o7 (Nat.le_refl _); have do6o7 := own_apart o6 o7 (Nat.le_refl _); replace o7 := own_mono o7 HB.size; replace o5 := o5.kept hgr (by cases Value.ownBlock _ <;> simp); replace o6 := o6.kept hgr (by cases Value.ownBlock _ <;> simp); replace HB := HB.grown hgr (by have := HB.size; omega) (by simp); clear hb hgr))
  obtain ⟨g5, rfl, z5⟩ := own_at o5 (by decide)
  obtain ⟨g6, rfl, z6⟩ := own_at o6 (by decide)
  have x50 := own_cells o5 (k := 0) (by decide) rfl
  have x51 := own_cells o5 (k := 1) (by decide) rfl
  have x60 := own_cells o6 (k := 0) (by decide) rfl
  have x61 := own_cells o6 (k := 1) (by decide) rfl
  obtain ⟨g7, rfl, z7⟩ := own_at o7 (by decide)
  have x70 := own_cells o7 (k := 0) (by decide) rfl
  clear o5 o6 o7 do5o6 do5o7 do6o7
  refine wp_loop_rounds (1 + 1) ?_
  rw [rounds_succ]
  go_wp2
  rw [rounds_succ]
  go_wp2
  go_ret
  exact ⟨rfl, HB⟩
set_option maxHeartbeats 4000000 in
set_option maxRecDepth 100000 in
theorem liftSteps33_calls (w : World) (ht : Tab w 2 waysL) :
    Calls Tryd.prog 4 #[.int .i64 3, .int .i64 3] w fun e w' => e = .returned (.bool true) ∧ Below w.heap.size w w' := by
  have HB := Below.refl w.heap.size w
  have Ht := Lib.hid ht
  have nx5 : True := trivial
  have nx6 : True := trivial
  clear ht
  go_enter Tryd.func4, Tryd.ntmps4
  go_wp2_with (first
    | (go_at_call 30; clear nx5; (with_reducible refine (steps_calls' (a := 1) (b := 3) (l := [nm1to2, nm2to3]) (n := 2) rfl rfl _ (Ht.out.next HB)).mono ?_); rintro e W1 ⟨A5, c5, rfl, o5, hb⟩; have hgr := grown_of_below hb; replace o5 := own_mono o5 HB.size; replace HB := HB.grown hgr (by have := HB.size; omega) (by simp); clear hb hgr)
    | (go_at_call 30; clear nx6; (with_reducible refine (steps_calls' (a := 3) (b := 1) (l := [nm3to2, nm2to1]) (n := 2) rfl rfl _ (Ht.out.next HB)).mono ?_); rintro e W2 ⟨A6, c6, rfl, o6, hb⟩; have hgr := grown_of_below hb; have do5o6 := own_apart o5 o6 (Nat.le_refl _); replace o6 := own_mono o6 HB.size; replace o5 := o5.kept hgr (by cases Value.ownBlock _ <;> simp); replace HB := HB.grown hgr (by have := HB.size; omega) (by simp); clear hb hgr)
    | ((with_reducible refine gate_dst (N := 14) rfl ?_); refine ev_lit rfl rfl (#[.string nm1to2, .string nm2to3]) 9 2 (by go_simp; first | done | rfl) ?_; intro g1 W3 hg1 hsz hbn; have hgr := grown_of_below hbn; have zg1 : w.heap.size ≤ g1 := (by have := HB.size; omega); replace o5 := o5.kept hgr (by cases Value.ownBlock _ <;> simp); replace o6 := o6.kept hgr (by cases Value.ownBlock _ <;> simp); replace HB := HB.grown hgr (by have := HB.size; omega) (by simp); have hcg1 := hg1.cell; have hfg1 := hg1.frozen; clear hsz hbn hgr)
    | (go_at_call 31; (with_reducible refine (sameWords_two nm1to2 nm2to3 _ _ _ _ _ (Reads.of_own o5) (hg1.reads (size := 1) (n := 2) rfl)).mono ?_); rintro e W4 ⟨rfl, hb⟩; have hgr := grown_of_below hb; replace hg1 := hg1.grown hgr (by simp); replace o5 := o5.kept hgr (by cases Value.ownBlock _ <;> simp); replace o6 := o6.kept hgr (by cases Value.ownBlock _ <;> simp); replace HB := HB.grown hgr (by have := HB.size; omega) (by simp); replace hcg1 := hg1.cell; replace hfg1 := hg1.frozen; clear hb hgr)
    | ((with_reducible refine gate_dst (N := 19) rfl ?_); refine wpList_ungate (by first | rfl | simp [Region.wanted, yielded]) ?_; refine ev_lit rfl rfl (#[.string nm3to2, .string nm2to1]) 9 2 (by go_simp; first | done | rfl) ?_; intro g2 W5 hg2 hsz hbn; have hgr := grown_of_below hbn; have zg2 : w.heap.size ≤ g2 := (by have := HB.size; omega); replace o5 := o5.kept hgr (by cases Value.ownBlock _ <;> simp); replace o6 := o6.kept hgr (by cases Value.ownBlock _ <;> simp); replace HB := HB.grown hgr (by have := HB.size; omega) (by simp); have hcg2 := hg2.cell; have hfg2 := hg2.frozen; clear hsz hbn hgr)
    | (go_at_call 31; (with_reducible refine (sameWords_two nm3to2 nm2to1 _ _ _ _ _ (Reads.of_own o6) (hg2.reads (size := 1) (n := 2) rfl)).mono ?_); rintro e W6 ⟨rfl, hb⟩; have hgr := grown_of_below hb; replace hg2 := hg2.grown hgr (by simp); replace o5 := o5.kept hgr (by cases Value.ownBlock _ <;> simp); replace o6 := o6.kept hgr (by cases Value.ownBlock _ <;> simp); replace HB := HB.grown hgr (by have := HB.size; omega) (by simp); replace hcg2 := hg2.cell; replace hfg2 := hg2.frozen; clear hb hgr)
    | (go_at_call 30; (with_reducible refine (steps_calls' (a := 3) (b := 3) (l := []) (n := 0) rfl rfl _ (Ht.out.next HB)).mono ?_); rintro e W7 ⟨A7, c7, rfl, o7, hb⟩; have hgr := grown_of_below hb; have do5o7 := own_apart o5 o7 (Nat.le_refl _); have do6o7 := own_apart o6 o7 (Nat.le_refl _); replace o7 := own_mono o7 HB.size; replace o5 := o5.kept hgr (by cases Value.ownBlock _ <;> simp); replace o6 := o6.kept hgr (by cases Value.ownBlock _ <;> simp); replace HB := HB.grown hgr (by have := HB.size; omega) (by simp); clear hb hgr))
  obtain ⟨g5, rfl, z5⟩ := own_at o5 (by decide)
  obtain ⟨g6, rfl, z6⟩ := own_at o6 (by decide)
  have x50 := own_cells o5 (k := 0) (by decide) rfl
  have x51 := own_cells o5 (k := 1) (by decide) rfl
  have x60 := own_cells o6 (k := 0) (by decide) rfl
  have x61 := own_cells o6 (k := 1) (by decide) rfl
  clear o5 o6 o7 do5o6 do5o7 do6o7
  refine wp_loop_rounds (0 + 1) ?_
  rw [rounds_succ]
  go_wp2
  go_ret
  exact ⟨rfl, HB⟩
end Go.Proofs.YtjhiohjpkdjkoaaDoor
