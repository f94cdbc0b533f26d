/-
  The walk of the law LiftSteps: other versions, and all together.
-/
import Derived.Test.YtjhiohjpkdjkoaaDoorL4
set_option linter.unusedVariables false
set_option linter.unusedSimpArgs false
namespace Go.Proofs.YtjhiohjpkdjkoaaDoor
open Go.RowKit

set_option maxHeartbeats 4000000 in
set_option maxRecDepth 100000 in
theorem liftSteps_lo (a b : Int) (w : World) (ht : Tab w 2 waysL) (hx : a<1) :
    Calls Tryd.prog 4 #[.int .i64 a, .int .i64 b] w fun e w' => e = .returned (.bool true) ∧ Below w.heap.size w w' := by
  have HB := Below.refl w.heap.size w
  have Ht := Lib.hid ht
  have nx5 : True := trivial
  have nx6 : True := trivial
  have hs : stepsL a b = [] := by unfold stepsL; rw [if_neg (by omega), if_neg (by omega), if_neg (by omega), if_neg (by omega), if_neg (by omega), if_neg (by omega)]
  have Hs := Lib.hid hs
  have t1 : decide (a < 1) = true := (by simp; omega)
  clear ht hx hs
  go_enter Tryd.func4, Tryd.ntmps4
  go_wp2_with (first
    | (go_at_call 30; clear nx5; (with_reducible refine (steps_calls' (a := 1) (b := 3) (l := [nm1to2, nm2to3]) (n := 2) rfl rfl _ (Ht.out.next HB)).mono ?_); rintro e W1 ⟨A5, c5, rfl, o5, hb⟩; have hgr := grown_of_below hb; replace o5 := own_mono o5 HB.size; replace HB := HB.grown hgr (by have := HB.size; omega) (by simp); clear hb hgr)
    | (go_at_call 30; clear nx6; (with_reducible refine (steps_calls' (a := 3) (b := 1) (l := [nm3to2, nm2to1]) (n := 2) rfl rfl _ (Ht.out.next HB)).mono ?_); rintro e W2 ⟨A6, c6, rfl, o6, hb⟩; have hgr := grown_of_below hb; have do5o6 := own_apart o5 o6 (Nat.le_refl _); replace o6 := own_mono o6 HB.size; replace o5 := o5.kept hgr (by cases Value.ownBlock _ <;> simp); replace HB := HB.grown hgr (by have := HB.size; omega) (by simp); clear hb hgr)
    | ((with_reducible refine gate_dst (N := 14) rfl ?_); refine ev_lit rfl rfl (#[.string nm1to2, .string nm2to3]) 9 2 (by go_simp; first | done | rfl) ?_; intro g1 W3 hg1 hsz hbn; have hgr := grown_of_below hbn; have zg1 : w.heap.size ≤ g1 := (by have := HB.size; omega); replace o5 := o5.kept hgr (by cases Value.ownBlock _ <;> simp); replace o6 := o6.kept hgr (by cases Value.ownBlock _ <;> simp); replace HB := HB.grown hgr (by have := HB.size; omega) (by simp); have hcg1 := hg1.cell; have hfg1 := hg1.frozen; clear hsz hbn hgr)
    | (go_at_call 31; (with_reducible refine (sameWords_two nm1to2 nm2to3 _ _ _ _ _ (Reads.of_own o5) (hg1.reads (size := 1) (n := 2) rfl)).mono ?_); rintro e W4 ⟨rfl, hb⟩; have hgr := grown_of_below hb; replace hg1 := hg1.grown hgr (by simp); replace o5 := o5.kept hgr (by cases Value.ownBlock _ <;> simp); replace o6 := o6.kept hgr (by cases Value.ownBlock _ <;> simp); replace HB := HB.grown hgr (by have := HB.size; omega) (by simp); replace hcg1 := hg1.cell; replace hfg1 := hg1.frozen; clear hb hgr)
    | ((with_reducible refine gate_dst (N := 19) rfl ?_); refine wpList_ungate (by first | rfl | simp [Region.wanted, yielded]) ?_; refine ev_lit rfl rfl (#[.string nm3to2, .string nm2to1]) 9 2 (by go_simp; first | done | rfl) ?_; intro g2 W5 hg2 hsz hbn; have hgr := grown_of_below hbn; have zg2 : w.heap.size ≤ g2 := (by have := HB.size; omega); replace o5 := o5.kept hgr (by cases Value.ownBlock _ <;> simp); replace o6 := o6.kept hgr (by cases Value.ownBlock _ <;> simp); replace HB := HB.grown hgr (by have := HB.size; omega) (by simp); have hcg2 := hg2.cell; have hfg2 := hg2.frozen; clear hsz hbn hgr)
    | (go_at_call 31; (with_reducible refine (sameWords_two nm3to2 nm2to1 _ _ _ _ _ (Reads.of_own o6) (hg2.reads (size := 1) (n := 2) rfl)).mono ?_); rintro e W6 ⟨rfl, hb⟩; have hgr := grown_of_below hb; replace hg2 := hg2.grown hgr (by simp); replace o5 := o5.kept hgr (by cases Value.ownBlock _ <;> simp); replace o6 := o6.kept hgr (by cases Value.ownBlock _ <;> simp); replace HB := HB.grown hgr (by have := HB.size; omega) (by simp); replace hcg2 := hg2.cell; replace hfg2 := hg2.frozen; clear hb hgr)
    | (go_at_call 30; (with_reducible refine (steps_calls' (a := a) (b := b) (l := []) (n := 0) Hs.out rfl _ (Ht.out.next HB)).mono ?_); rintro e W7 ⟨A7, c7, rfl, o7, hb⟩; have hgr := grown_of_below hb; have do5o7 := own_apart o5 o7 (Nat.le_refl _); have do6o7 := own_apart o6 o7 (Nat.le_refl _); replace o7 := own_mono o7 HB.size; replace o5 := o5.kept hgr (by cases Value.ownBlock _ <;> simp); replace o6 := o6.kept hgr (by cases Value.ownBlock _ <;> simp); replace HB := HB.grown hgr (by have := HB.size; omega) (by simp); clear hb hgr))
  go_ret
  exact ⟨rfl, HB⟩
set_option maxHeartbeats 4000000 in
set_option maxRecDepth 100000 in
theorem liftSteps_hi (a b : Int) (w : World) (ht : Tab w 2 waysL) (hx : 3<a) :
    Calls Tryd.prog 4 #[.int .i64 a, .int .i64 b] w fun e w' => e = .returned (.bool true) ∧ Below w.heap.size w w' := by
  have HB := Below.refl w.heap.size w
  have Ht := Lib.hid ht
  have nx5 : True := trivial
  have nx6 : True := trivial
  have hs : stepsL a b = [] := by unfold stepsL; rw [if_neg (by omega), if_neg (by omega), if_neg (by omega), if_neg (by omega), if_neg (by omega), if_neg (by omega)]
  have Hs := Lib.hid hs
  have t1 : decide (a < 1) = false := (by simp; omega)
  have t2 : decide (3 < a) = true := (by simp; omega)
  clear ht hx hs
  go_enter Tryd.func4, Tryd.ntmps4
  go_wp2_with (first
    | (go_at_call 30; clear nx5; (with_reducible refine (steps_calls' (a := 1) (b := 3) (l := [nm1to2, nm2to3]) (n := 2) rfl rfl _ (Ht.out.next HB)).mono ?_); rintro e W1 ⟨A5, c5, rfl, o5, hb⟩; have hgr := grown_of_below hb; replace o5 := own_mono o5 HB.size; replace HB := HB.grown hgr (by have := HB.size; omega) (by simp); clear hb hgr)
    | (go_at_call 30; clear nx6; (with_reducible refine (steps_calls' (a := 3) (b := 1) (l := [nm3to2, nm2to1]) (n := 2) rfl rfl _ (Ht.out.next HB)).mono ?_); rintro e W2 ⟨A6, c6, rfl, o6, hb⟩; have hgr := grown_of_below hb; have do5o6 := own_apart o5 o6 (Nat.le_refl _); replace o6 := own_mono o6 HB.size; replace o5 := o5.kept hgr (by cases Value.ownBlock _ <;> simp); replace HB := HB.grown hgr (by have := HB.size; omega) (by simp); clear hb hgr)
    | ((with_reducible refine gate_dst (N := 14) rfl ?_); refine ev_lit rfl rfl (#[.string nm1to2, .string nm2to3]) 9 2 (by go_simp; first | done | rfl) ?_; intro g1 W3 hg1 hsz hbn; have hgr := grown_of_below hbn; have zg1 : w.heap.size ≤ g1 := (by have := HB.size; omega); replace o5 := o5.kept hgr (by cases Value.ownBlock _ <;> simp); replace o6 := o6.kept hgr (by cases Value.ownBlock _ <;> simp); replace HB := HB.grown hgr (by have := HB.size; omega) (by simp); have hcg1 := hg1.cell; have hfg1 := hg1.frozen; clear hsz hbn hgr)
    | (go_at_call 31; (with_reducible refine (sameWords_two nm1to2 nm2to3 _ _ _ _ _ (Reads.of_own o5) (hg1.reads (size := 1) (n := 2) rfl)).mono ?_); rintro e W4 ⟨rfl, hb⟩; have hgr := grown_of_below hb; replace hg1 := hg1.grown hgr (by simp); replace o5 := o5.kept hgr (by cases Value.ownBlock _ <;> simp); replace o6 := o6.kept hgr (by cases Value.ownBlock _ <;> simp); replace HB := HB.grown hgr (by have := HB.size; omega) (by simp); replace hcg1 := hg1.cell; replace hfg1 := hg1.frozen; clear hb hgr)
    | ((with_reducible refine gate_dst (N := 19) rfl ?_); refine wpList_ungate (by first | rfl | simp [Region.wanted, yielded]) ?_; refine ev_lit rfl rfl (#[.string nm3to2, .string nm2to1]) 9 2 (by go_simp; first | done | rfl) ?_; intro g2 W5 hg2 hsz hbn; have hgr := grown_of_below hbn; have zg2 : w.heap.size ≤ g2 := (by have := HB.size; omega); replace o5 := o5.kept hgr (by cases Value.ownBlock _ <;> simp); replace o6 := o6.kept hgr (by cases Value.ownBlock _ <;> simp); replace HB := HB.grown hgr (by have := HB.size; omega) (by simp); have hcg2 := hg2.cell; have hfg2 := hg2.frozen; clear hsz hbn hgr)
    | (go_at_call 31; (with_reducible refine (sameWords_two nm3to2 nm2to1 _ _ _ _ _ (Reads.of_own o6) (hg2.reads (size := 1) (n := 2) rfl)).mono ?_); rintro e W6 ⟨rfl, hb⟩; have hgr := grown_of_below hb; replace hg2 := hg2.grown hgr (by simp); replace o5 := o5.kept hgr (by cases Value.ownBlock _ <;> simp); replace o6 := o6.kept hgr (by cases Value.ownBlock _ <;> simp); replace HB := HB.grown hgr (by have := HB.size; omega) (by simp); replace hcg2 := hg2.cell; replace hfg2 := hg2.frozen; clear hb hgr)
    | (go_at_call 30; (with_reducible refine (steps_calls' (a := a) (b := b) (l := []) (n := 0) Hs.out rfl _ (Ht.out.next HB)).mono ?_); rintro e W7 ⟨A7, c7, rfl, o7, hb⟩; have hgr := grown_of_below hb; have do5o7 := own_apart o5 o7 (Nat.le_refl _); have do6o7 := own_apart o6 o7 (Nat.le_refl _); replace o7 := own_mono o7 HB.size; replace o5 := o5.kept hgr (by cases Value.ownBlock _ <;> simp); replace o6 := o6.kept hgr (by cases Value.ownBlock _ <;> simp); replace HB := HB.grown hgr (by have := HB.size; omega) (by simp); clear hb hgr))
  go_ret
  exact ⟨rfl, HB⟩
set_option maxHeartbeats 4000000 in
set_option maxRecDepth 100000 in
theorem liftSteps_Lo (a b : Int) (w : World) (ht : Tab w 2 waysL) (hx : (1≤a∧a≤3)∧b<1) :
    Calls Tryd.prog 4 #[.int .i64 a, .int .i64 b] w fun e w' => e = .returned (.bool true) ∧ Below w.heap.size w w' := by
  have HB := Below.refl w.heap.size w
  have Ht := Lib.hid ht
  have nx5 : True := trivial
  have nx6 : True := trivial
  have hs : stepsL a b = [] := by unfold stepsL; rw [if_neg (by omega), if_neg (by omega), if_neg (by omega), if_neg (by omega), if_neg (by omega), if_neg (by omega)]
  have Hs := Lib.hid hs
  have t1 : decide (a < 1) = false := (by simp; omega)
  have t2 : decide (3 < a) = false := (by simp; omega)
  have t3 : decide (b < 1) = true := (by simp; omega)
  clear ht hx hs
  go_enter Tryd.func4, Tryd.ntmps4
  go_wp2_with (first
    | (go_at_call 30; clear nx5; (with_reducible refine (steps_calls' (a := 1) (b := 3) (l := [nm1to2, nm2to3]) (n := 2) rfl rfl _ (Ht.out.next HB)).mono ?_); rintro e W1 ⟨A5, c5, rfl, o5, hb⟩; have hgr := grown_of_below hb; replace o5 := own_mono o5 HB.size; replace HB := HB.grown hgr (by have := HB.size; omega) (by simp); clear hb hgr)
    | (go_at_call 30; clear nx6; (with_reducible refine (steps_calls' (a := 3) (b := 1) (l := [nm3to2, nm2to1]) (n := 2) rfl rfl _ (Ht.out.next HB)).mono ?_); rintro e W2 ⟨A6, c6, rfl, o6, hb⟩; have hgr := grown_of_below hb; have do5o6 := own_apart o5 o6 (Nat.le_refl _); replace o6 := own_mono o6 HB.size; replace o5 := o5.kept hgr (by cases Value.ownBlock _ <;> simp); replace HB := HB.grown hgr (by have := HB.size; omega) (by simp); clear hb hgr)
    | ((with_reducible refine gate_dst (N := 14) rfl ?_); refine ev_lit rfl rfl (#[.string nm1to2, .string nm2to3]) 9 2 (by go_simp; first | done | rfl) ?_; intro g1 W3 hg1 hsz hbn; have hgr := grown_of_below hbn; have zg1 : w.heap.size ≤ g1 := (by have := HB.size; omega); replace o5 := o5.kept hgr (by cases Value.ownBlock _ <;> simp); replace o6 := o6.kept hgr (by cases Value.ownBlock _ <;> simp); replace HB := HB.grown hgr (by have := HB.size; omega) (by simp); have hcg1 := hg1.cell; have hfg1 := hg1.frozen; clear hsz hbn hgr)
    | (go_at_call 31; (with_reducible refine (sameWords_two nm1to2 nm2to3 _ _ _ _ _ (Reads.of_own o5) (hg1.reads (size := 1) (n := 2) rfl)).mono ?_); rintro e W4 ⟨rfl, hb⟩; have hgr := grown_of_below hb; replace hg1 := hg1.grown hgr (by simp); replace o5 := o5.kept hgr (by cases Value.ownBlock _ <;> simp); replace o6 := o6.kept hgr (by cases Value.ownBlock _ <;> simp); replace HB := HB.grown hgr (by have := HB.size; omega) (by simp); replace hcg1 := hg1.cell; replace hfg1 := hg1.frozen; clear hb hgr)
    | ((with_reducible refine gate_dst (N := 19) rfl ?_); refine wpList_ungate (by first | rfl | simp [Region.wanted, yielded]) ?_; refine ev_lit rfl rfl (#[.string nm3to2, .string nm2to1]) 9 2 (by go_simp; first | done | rfl) ?_; intro g2 W5 hg2 hsz hbn; have hgr := grown_of_below hbn; have zg2 : w.heap.size ≤ g2 := (by have := HB.size; omega); replace o5 := o5.kept hgr (by cases Value.ownBlock _ <;> simp); replace o6 := o6.kept hgr (by cases Value.ownBlock _ <;> simp); replace HB := HB.grown hgr (by have := HB.size; omega) (by simp); have hcg2 := hg2.cell; have hfg2 := hg2.frozen; clear hsz hbn hgr)
    | (go_at_call 31; (with_reducible refine (sameWords_two nm3to2 nm2to1 _ _ _ _ _ (Reads.of_own o6) (hg2.reads (size := 1) (n := 2) rfl)).mono ?_); rintro e W6 ⟨rfl, hb⟩; have hgr := grown_of_below hb; replace hg2 := hg2.grown hgr (by simp); replace o5 := o5.kept hgr (by cases Value.ownBlock _ <;> simp); replace o6 := o6.kept hgr (by cases Value.ownBlock _ <;> simp); replace HB := HB.grown hgr (by have := HB.size; omega) (by simp); replace hcg2 := hg2.cell; replace hfg2 := hg2.frozen; clear hb hgr)
    | (go_at_call 30; (with_reducible refine (steps_calls' (a := a) (b := b) (l := []) (n := 0) Hs.out rfl _ (Ht.out.next HB)).mono ?_); rintro e W7 ⟨A7, c7, rfl, o7, hb⟩; have hgr := grown_of_below hb; have do5o7 := own_apart o5 o7 (Nat.le_refl _); have do6o7 := own_apart o6 o7 (Nat.le_refl _); replace o7 := own_mono o7 HB.size; replace o5 := o5.kept hgr (by cases Value.ownBlock _ <;> simp); replace o6 := o6.kept hgr (by cases Value.ownBlock _ <;> simp); replace HB := HB.grown hgr (by have := HB.size; omega) (by simp); clear hb hgr))
  go_ret
  exact ⟨rfl, HB⟩
set_option maxHeartbeats 4000000 in
set_option maxRecDepth 100000 in
theorem liftSteps_Hi (a b : Int) (w : World) (ht : Tab w 2 waysL) (hx : (1≤a∧a≤3)∧3<b) :
    Calls Tryd.prog 4 #[.int .i64 a, .int .i64 b] w fun e w' => e = .returned (.bool true) ∧ Below w.heap.size w w' := by
  have HB := Below.refl w.heap.size w
  have Ht := Lib.hid ht
  have nx5 : True := trivial
  have nx6 : True := trivial
  have hs : stepsL a b = [] := by unfold stepsL; rw [if_neg (by omega), if_neg (by omega), if_neg (by omega), if_neg (by omega), if_neg (by omega), if_neg (by omega)]
  have Hs := Lib.hid hs
  have t1 : decide (a < 1) = false := (by simp; omega)
  have t2 : decide (3 < a) = false := (by simp; omega)
  have t3 : decide (b < 1) = false := (by simp; omega)
  have t4 : decide (3 < b) = true := (by simp; omega)
  clear ht hx hs
  go_enter Tryd.func4, Tryd.ntmps4
  go_wp2_with (first
    | (go_at_call 30; clear nx5; (with_reducible refine (steps_calls' (a := 1) (b := 3) (l := [nm1to2, nm2to3]) (n := 2) rfl rfl _ (Ht.out.next HB)).mono ?_); rintro e W1 ⟨A5, c5, rfl, o5, hb⟩; have hgr := grown_of_below hb; replace o5 := own_mono o5 HB.size; replace HB := HB.grown hgr (by have := HB.size; omega) (by simp); clear hb hgr)
    | (go_at_call 30; clear nx6; (with_reducible refine (steps_calls' (a := 3) (b := 1) (l := [nm3to2, nm2to1]) (n := 2) rfl rfl _ (Ht.out.next HB)).mono ?_); rintro e W2 ⟨A6, c6, rfl, o6, hb⟩; have hgr := grown_of_below hb; have do5o6 := own_apart o5 o6 (Nat.le_refl _); replace o6 := own_mono o6 HB.size; replace o5 := o5.kept hgr (by cases Value.ownBlock _ <;> simp); replace HB := HB.grown hgr (by have := HB.size; omega) (by simp); clear hb hgr)
    | ((with_reducible refine gate_dst (N := 14) rfl ?_); refine ev_lit rfl rfl (#[.string nm1to2, .string nm2to3]) 9 2 (by go_simp; first | done | rfl) ?_; intro g1 W3 hg1 hsz hbn; have hgr := grown_of_below hbn; have zg1 : w.heap.size ≤ g1 := (by have := HB.size; omega); replace o5 := o5.kept hgr (by cases Value.ownBlock _ <;> simp); replace o6 := o6.kept hgr (by cases Value.ownBlock _ <;> simp); replace HB := HB.grown hgr (by have := HB.size; omega) (by simp); have hcg1 := hg1.cell; have hfg1 := hg1.frozen; clear hsz hbn hgr)
    | (go_at_call 31; (with_reducible refine (sameWords_two nm1to2 nm2to3 _ _ _ _ _ (Reads.of_own o5) (hg1.reads (size := 1) (n := 2) rfl)).mono ?_); rintro e W4 ⟨rfl, hb⟩; have hgr := grown_of_below hb; replace hg1 := hg1.grown hgr (by simp); replace o5 := o5.kept hgr (by cases Value.ownBlock _ <;> simp); replace o6 := o6.kept hgr (by cases Value.ownBlock _ <;> simp); replace HB := HB.grown hgr (by have := HB.size; omega) (by simp); replace hcg1 := hg1.cell; replace hfg1 := hg1.frozen; clear hb hgr)
    | ((with_reducible refine gate_dst (N := 19) rfl ?_); refine wpList_ungate (by first | rfl | simp [Region.wanted, yielded]) ?_; refine ev_lit rfl rfl (#[.string nm3to2, .string nm2to1]) 9 2 (by go_simp; first | done | rfl) ?_; intro g2 W5 hg2 hsz hbn; have hgr := grown_of_below hbn; have zg2 : w.heap.size ≤ g2 := (by have := HB.size; omega); replace o5 := o5.kept hgr (by cases Value.ownBlock _ <;> simp); replace o6 := o6.kept hgr (by cases Value.ownBlock _ <;> simp); replace HB := HB.grown hgr (by have := HB.size; omega) (by simp); have hcg2 := hg2.cell; have hfg2 := hg2.frozen; clear hsz hbn hgr)
    | (go_at_call 31; (with_reducible refine (sameWords_two nm3to2 nm2to1 _ _ _ _ _ (Reads.of_own o6) (hg2.reads (size := 1) (n := 2) rfl)).mono ?_); rintro e W6 ⟨rfl, hb⟩; have hgr := grown_of_below hb; replace hg2 := hg2.grown hgr (by simp); replace o5 := o5.kept hgr (by cases Value.ownBlock _ <;> simp); replace o6 := o6.kept hgr (by cases Value.ownBlock _ <;> simp); replace HB := HB.grown hgr (by have := HB.size; omega) (by simp); replace hcg2 := hg2.cell; replace hfg2 := hg2.frozen; clear hb hgr)
    | (go_at_call 30; (with_reducible refine (steps_calls' (a := a) (b := b) (l := []) (n := 0) Hs.out rfl _ (Ht.out.next HB)).mono ?_); rintro e W7 ⟨A7, c7, rfl, o7, hb⟩; have hgr := grown_of_below hb; have do5o7 := own_apart o5 o7 (Nat.le_refl _); have do6o7 := own_apart o6 o7 (Nat.le_refl _); replace o7 := own_mono o7 HB.size; replace o5 := o5.kept hgr (by cases Value.ownBlock _ <;> simp); replace o6 := o6.kept hgr (by cases Value.ownBlock _ <;> simp); replace HB := HB.grown hgr (by have := HB.size; omega) (by simp); clear hb hgr))
  go_ret
  exact ⟨rfl, HB⟩

theorem liftSteps_calls (a b : Int) (w : World) (ht : Tab w 2 waysL) :
    Calls Tryd.prog 4 #[.int .i64 a, .int .i64 b] w fun e w' => e = .returned (.bool true) ∧ Below w.heap.size w w' := by
  by_cases h1 : a < 1
  · exact liftSteps_lo a b w ht h1
  by_cases h2 : 3 < a
  · exact liftSteps_hi a b w ht h2
  by_cases h3 : b < 1
  · exact liftSteps_Lo a b w ht ⟨by omega, h3⟩
  by_cases h4 : 3 < b
  · exact liftSteps_Hi a b w ht ⟨by omega, h4⟩
  obtain rfl | rfl | rfl : a = 1 ∨ a = 2 ∨ a = 3 := by omega
  · obtain rfl | rfl | rfl : b = 1 ∨ b = 2 ∨ b = 3 := by omega
    · exact liftSteps11_calls w ht
    · exact liftSteps12_calls w ht
    · exact liftSteps13_calls w ht
  · obtain rfl | rfl | rfl : b = 1 ∨ b = 2 ∨ b = 3 := by omega
    · exact liftSteps21_calls w ht
    · exact liftSteps22_calls w ht
    · exact liftSteps23_calls w ht
  · obtain rfl | rfl | rfl : b = 1 ∨ b = 2 ∨ b = 3 := by omega
    · exact liftSteps31_calls w ht
    · exact liftSteps32_calls w ht
    · exact liftSteps33_calls w ht
end Go.Proofs.YtjhiohjpkdjkoaaDoor
