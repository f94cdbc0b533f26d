/-
  What annalslaw3.started comes to; Encode, Size of every record; copied.
-/
import Derived.Test.YtikodgaomhmbmaaDoorMWar
import Derived.Test.YtikodgaomhmbmaaDoorMDr
set_option linter.unusedVariables false
set_option linter.unusedSimpArgs false
namespace Go.Proofs.YtikodgaomhmbmaaDoor
open Go.RowKit
attribute [local go_sem] Rec.size_ Rec.g0 Rec.g1 Rec.g2 Rec.g3 Rec.g4 Rec.g5 Rec.g6 Rec.g7 Rec.g8 Rec.g9 Rec.g10 Rec.g11 Rec.fold Rec.same_self

def endC0 : Rec := { Rec.zero with V := 1 }
def endC1 : Rec := { Rec.zero with V := 1, Kind := 7 }
set_option maxHeartbeats 1000000 in
set_option maxRecDepth 100000 in
theorem value_1 (g g0 : Nat) (w : World) (hg : Blk w g 27 (endC0.cells none 0)) (hg0 : Blk w g0 5 fourB) :
    Calls Tryd.prog 70 #[.pointer (some ⟨g, 0, none⟩), .int .i64 1, .slice (some ⟨g0, 0, none⟩) 4 4, .int .i64 1] w fun e w' => e = .returned (.tuple #[.int .i64 2, .int .i64 0]) ∧ Blk w' g 27 (endC1.cells none 0) ∧ w.grownBy w' (some g) := by
  have hcg := hg.cell
  have hfg := hg.frozen
  go_enter Tryd.func70, Tryd.ntmps70
  go_wp2_with (first
    | (go_at_call 69; (with_reducible refine (read_1 g0 _ hg0).mono ?_); rintro e w1 ⟨rfl, rfl⟩)
    | (go_at_call 60; (with_reducible refine (num1_calls g _).mono ?_); rintro e w1 ⟨rfl, rfl⟩)
    | ((with_reducible refine gate_store (p := 86) rfl ?_); refine ev_store_cell rfl rfl rfl hg rfl (i := 1) (v := .int .i64 7) rfl rfl (by kernel_rfl) (show (1 : Nat) < 12 by decide) ?_; intro W1 hgn hgr; replace hgn : Blk W1 g _ (endC1.cells none 0) := hgn; clear hg hcg hfg))
  go_ret2
  exact ⟨rfl, hgn, hgr⟩
set_option maxHeartbeats 1000000 in
set_option maxRecDepth 100000 in
theorem value_2 (g g0 : Nat) (w : World) (hg : Blk w g 27 (endC1.cells none 0)) (hg0 : Blk w g0 5 fourB) :
    Calls Tryd.prog 70 #[.pointer (some ⟨g, 0, none⟩), .int .i64 2, .slice (some ⟨g0, 0, none⟩) 4 4, .int .i64 3] w fun e w' => e = .returned (.tuple #[.int .i64 4, .int .i64 0]) ∧ Blk w' g 27 (endC.cells none 0) ∧ w.grownBy w' (some g) := by
  have hcg := hg.cell
  have hfg := hg.frozen
  go_enter Tryd.func70, Tryd.ntmps70
  go_wp2_with (first
    | (go_at_call 69; (with_reducible refine (read_3 g0 _ hg0).mono ?_); rintro e w1 ⟨rfl, rfl⟩)
    | (go_at_call 60; (with_reducible refine (num2_calls g _).mono ?_); rintro e w1 ⟨rfl, rfl⟩)
    | ((with_reducible refine gate_store (p := 86) rfl ?_); refine ev_store_cell rfl rfl rfl hg rfl (i := 2) (v := .int .i64 1) rfl rfl (by kernel_rfl) (show (2 : Nat) < 12 by decide) ?_; intro W1 hgn hgr; replace hgn : Blk W1 g _ (endC.cells none 0) := hgn; clear hg hcg hfg))
  go_ret2
  exact ⟨rfl, hgn, hgr⟩

set_option maxHeartbeats 4000000 in
set_option maxRecDepth 100000 in
theorem decode_end (g0 : Nat) (w : World) (hT : Tabs w) (hg0 : Blk w g0 5 fourB) :
    Calls Tryd.prog 47 #[.int .i64 1, .slice (some ⟨g0, 0, none⟩) 4 4] w fun e w' => e = .returned (.tuple #[.agg (endC.cells none 0), .int .i64 0]) ∧ Below w.heap.size w w' := by
  have HB := Below.refl w.heap.size w
  have HT := Lib.hid hT
  have hlt0 := hg0.lt
  have m1 : True := trivial
  have m2 : True := trivial
  have hw1 : IntKind.i64.wrap 1 = 1 := by rfl
  have hw2 : IntKind.i64.wrap 2 = 2 := by rfl
  clear hT
  go_enter Tryd.func47, Tryd.ntmps47
  go_wp2_with (first
    | ((with_reducible refine gate_dst (N := 4) rfl ?_); refine ev_alloc rfl rfl _ rec_zero ?_; intro g4 W1 hg4 hsz hbn; have hgr := grown_of_below hbn; have ng0g4 : g0 ≠ g4 := (by have := hg0.lt; omega); replace hg4 : Blk W1 g4 _ (Rec.zero.cells none 0) := hg4; have zg4 : w.heap.size ≤ g4 := (by have := HB.size; omega); replace hg0 := hg0.grown hgr (by simp); replace HB := HB.grown hgr (by have := HB.size; omega) (by simp); have hcg4 := hg4.cell; have hfg4 := hg4.frozen; replace hcg0 := hg0.cell; replace hfg0 := hg0.frozen; clear hsz hbn hgr)
    | ((with_reducible refine gate_dst (N := 6) rfl ?_); refine ev_alloc rfl rfl _ rec_zero ?_; intro g6 W2 hg6 hsz hbn; have hgr := grown_of_below hbn; have ng0g6 : g0 ≠ g6 := (by have := hg0.lt; omega); have ng4g6 : g4 ≠ g6 := (by have := hg4.lt; omega); replace hg6 : Blk W2 g6 _ (Rec.zero.cells none 0) := hg6; have zg6 : w.heap.size ≤ g6 := (by have := HB.size; omega); replace hg0 := hg0.grown hgr (by simp); replace hg4 := hg4.grown hgr (by simp); replace HB := HB.grown hgr (by have := HB.size; omega) (by simp); have hcg6 := hg6.cell; have hfg6 := hg6.frozen; replace hcg0 := hg0.cell; replace hfg0 := hg0.frozen; replace hcg4 := hg4.cell; replace hfg4 := hg4.frozen; clear hsz hbn hgr)
    | ((with_reducible refine gate_store (p := 6) rfl ?_); refine ev_store_row (cs := endC0.cells none 0) rfl rfl rfl hg6 rfl rfl rec_size rfl (cells_one _ _ _) ?_; intro W3 hgn hgr; replace hg0 := hg0.grown hgr (by intro e; injection e with e; omega); replace hg4 := hg4.grown hgr (by intro e; injection e with e; omega); replace HB := HB.grown hgr (by have := HB.size; omega) (by intro k e; injection e with e; omega); replace hg6 := hgn; replace hcg0 := hg0.cell; replace hfg0 := hg0.frozen; replace hcg4 := hg4.cell; replace hfg4 := hg4.frozen; replace hcg6 := hg6.cell; replace hfg6 := hg6.frozen; clear hgn hgr))
  refine wp_loop_rounds 3 ?_
  rw [rounds_succ]
  go_wp2_with (first
    | (go_at_call 69; clear m1; (with_reducible refine (read_0 g0 _ hg0).mono ?_); rintro e w1 ⟨rfl, rfl⟩)
    | (go_at_call 70; (with_reducible refine (value_1 g6 g0 _ hg6 hg0).mono ?_); rintro e W4 ⟨rfl, hgn, hgr⟩; replace hg4 := hg4.grown hgr (by intro e; injection e with e; omega); replace hg0 := hg0.grown hgr (by intro e; injection e with e; omega); replace HB := HB.grown hgr (by have := HB.size; omega) (by intro k e; injection e with e; omega); replace hg6 := hgn; replace hcg4 := hg4.cell; replace hfg4 := hg4.frozen; replace hcg6 := hg6.cell; replace hfg6 := hg6.frozen; clear hgn hgr)
    | (go_at_call 71; (with_reducible refine (zero1_calls endC1 none 0 g6 _ hg6).mono ?_); rintro e w1 ⟨rfl, rfl⟩; have hk : (endC1.num 1 == 0) = false := rfl; rw [hk]))
  rw [rounds_succ]
  go_wp2_with (first
    | (go_at_call 69; (with_reducible refine (read_2 g0 _ hg0).mono ?_); rintro e w1 ⟨rfl, rfl⟩)
    | (go_at_call 70; (with_reducible refine (value_2 g6 g0 _ hg6 hg0).mono ?_); rintro e W5 ⟨rfl, hgn, hgr⟩; replace hg4 := hg4.grown hgr (by intro e; injection e with e; omega); replace hg0 := hg0.grown hgr (by intro e; injection e with e; omega); replace HB := HB.grown hgr (by have := HB.size; omega) (by intro k e; injection e with e; omega); replace hg6 := hgn; replace hcg4 := hg4.cell; replace hfg4 := hg4.frozen; replace hcg6 := hg6.cell; replace hfg6 := hg6.frozen; clear hgn hgr)
    | (go_at_call 71; (with_reducible refine (zero2_calls endC none 0 g6 _ hg6).mono ?_); rintro e w1 ⟨rfl, rfl⟩; have hk : (endC.num 2 == 0) = false := rfl; rw [hk]))
  rw [rounds_succ]
  go_wp2_with (first
    | ((with_reducible refine gate_dst (N := 66) rfl ?_); refine wpList_load_row rfl _ _ rfl g6 rfl _ _ (0, 0) _ hg6 Tryd.underlying27 rfl rec_size ?_)
    | (go_at_call 52; (with_reducible refine (endC_check _ (HT.out.next HB)).mono ?_); rintro e W1 ⟨rfl, hb⟩; have hgr := grown_of_below hb; replace hg0 := hg0.grown hgr (by simp); replace hg4 := hg4.grown hgr (by simp); replace hg6 := hg6.grown hgr (by simp); replace HB := HB.grown hgr (by have := HB.size; omega) (by simp); replace hcg0 := hg0.cell; replace hfg0 := hg0.frozen; replace hcg4 := hg4.cell; replace hfg4 := hg4.frozen; replace hcg6 := hg6.cell; replace hfg6 := hg6.frozen; clear hb hgr)
    | ((with_reducible refine gate_dst (N := 72) rfl ?_); refine wpList_load_row rfl _ _ rfl g6 rfl _ _ (0, 0) _ hg6 Tryd.underlying27 rfl rec_size ?_)
    | ((with_reducible refine gate_store (p := 4) rfl ?_); refine ev_store_row (cs := endC.cells none 0) rfl rfl rfl hg4 rfl rfl rec_size rfl (cells_one _ _ _) ?_; intro W2 hgn hgr; replace hg0 := hg0.grown hgr (by intro e; injection e with e; omega); replace hg6 := hg6.grown hgr (by intro e; injection e with e; omega); replace HB := HB.grown hgr (by have := HB.size; omega) (by intro k e; injection e with e; omega); replace hg4 := hgn; replace hcg0 := hg0.cell; replace hfg0 := hg0.frozen; replace hcg4 := hg4.cell; replace hfg4 := hg4.frozen; replace hcg6 := hg6.cell; replace hfg6 := hg6.frozen; clear hgn hgr))
  refine ret_row rfl hg4 rfl Tryd.underlying27 rfl rec_size rfl ?_
  exact ⟨rfl, HB⟩
end Go.Proofs.YtikodgaomhmbmaaDoor
namespace Go.Proofs.YtikodgaomhmbmaaDoor
open Go.RowKit
attribute [local go_sem] Rec.size_ Rec.g0 Rec.g1 Rec.g2 Rec.g3 Rec.g4 Rec.g5 Rec.g6 Rec.g7 Rec.g8 Rec.g9 Rec.g10 Rec.g11 Rec.fold Rec.same_self

theorem num3_calls (v : Int) (w : World) : Calls Tryd.prog 53 #[.int .i64 v] w fun e w' => e = .returned (.int .i64 v) ∧ w = w' := by
  go_enter Tryd.func53, Tryd.ntmps53
  go_wp2
  go_ret
  exact ⟨rfl, rfl⟩
theorem four_alike (A B : Option Addr) (c d : Nat) (w : World) (ha : Reads w w.heap.size 1 A 4 [.int .u8 1, .int .u8 7, .int .u8 2, .int .u8 1]) (hb : Reads w w.heap.size 1 B 4 [.int .u8 1, .int .u8 7, .int .u8 2, .int .u8 1]) :
    Calls Tryd.prog 57 #[.slice A 4 c, .slice B 4 d] w fun e w' => e = .returned (.bool true) ∧ Below w.heap.size w w' := by
  have := refAlike_calls [1, 7, 2, 1] [1, 7, 2, 1] A B c d w ha hb (by decide) (by decide)
  simpa using this
theorem same3 (a : Rec) (A B : Option Addr) (c d : Nat) (w : World) (ha : RB w A a.Data) (hb : RB w B a.Data) (hl : a.Data.length ≤ 140737488351232) :
    Calls Tryd.prog 42 #[.agg (a.cells A c), .agg (a.cells B d)] w fun e w' => e = .returned (.bool true) ∧ Below w.heap.size w w' := by
  have := refSame_calls a a A B c d w ha hb hl hl
  rwa [Rec.same_self] at this
theorem check_none (w : World) (hT : Tabs w) : Calls Tryd.prog 52 #[.agg #[.int .i64 0, .int .i64 0, .int .i64 0, .int .i64 0, .int .i64 0, .int .i64 0, .int .i64 0, .int .i64 0, .int .i64 0, .int .i64 0, .string ⟨#[]⟩, .slice none 0 0]] w fun e w' => e = .returned (.int .i64 3) ∧ Below w.heap.size w w' :=
  check_calls Rec.zero none 0 Rec.Fits.zero w hT RB.nil

set_option maxHeartbeats 4000000 in
set_option maxRecDepth 100000 in
theorem started3_calls (w : World) (hT : Tabs w) :
    Calls Tryd.prog 9 #[] w fun e w' => e = .returned (.bool true) ∧ Below w.heap.size w w' := by
  have HB := Below.refl w.heap.size w
  have HT := Lib.hid hT
  have m1 : True := trivial
  clear hT
  go_enter Tryd.func9, Tryd.ntmps9
  go_wp2_with (first
    | ((with_reducible refine gate_dst (N := 1) rfl ?_); refine ev_alloc rfl rfl _ rec_zero ?_; intro g1 W1 hg1 hsz hbn; have hgr := grown_of_below hbn; replace hg1 : Blk W1 g1 _ (Rec.zero.cells none 0) := hg1; have zg1 : w.heap.size ≤ g1 := (by have := HB.size; omega); replace HB := HB.grown hgr (by have := HB.size; omega) (by simp); have hcg1 := hg1.cell; have hfg1 := hg1.frozen; clear hsz hbn hgr)
    | ((with_reducible refine gate_store (p := 1) rfl ?_); refine ev_store_row (cs := endC.cells none 0) rfl rfl rfl hg1 rfl rfl rec_size rfl (cells_one _ _ _) ?_; intro W2 hgn hgr; replace HB := HB.grown hgr (by have := HB.size; omega) (by intro k e; injection e with e; omega); replace hg1 := hgn; replace hcg1 := hg1.cell; replace hfg1 := hg1.frozen; clear hgn hgr)
    | ((with_reducible refine gate_dst (N := 11) rfl ?_); refine wpList_load_row rfl _ _ rfl g1 rfl _ _ (0, 0) _ hg1 Tryd.underlying27 rfl rec_size ?_)
    | (go_at_call 49; (with_reducible refine (encode_end _ (HT.out.next HB)).mono ?_); rintro e W3 ⟨A5, c5, rfl, o5, hb⟩; have hgr := grown_of_below hb; replace o5 := own_mono o5 HB.size; replace hg1 := hg1.grown hgr (by simp); replace HB := HB.grown hgr (by have := HB.size; omega) (by simp); replace hcg1 := hg1.cell; replace hfg1 := hg1.frozen; clear hb hgr)
    | ((with_reducible refine gate_dst (N := 16) rfl ?_); refine wpList_load_row rfl _ _ rfl g1 rfl _ _ (0, 0) _ hg1 Tryd.underlying27 rfl rec_size ?_)
    | (go_at_call 51; (with_reducible refine (size_end _ (HT.out.next HB)).mono ?_); rintro e W4 ⟨rfl, hb⟩; have hgr := grown_of_below hb; replace hg1 := hg1.grown hgr (by simp); replace o5 := o5.kept hgr (by cases Value.ownBlock _ <;> simp); replace HB := HB.grown hgr (by have := HB.size; omega) (by simp); replace hcg1 := hg1.cell; replace hfg1 := hg1.frozen; clear hb hgr)
    | ((with_reducible refine gate_dst (N := 21) rfl ?_); refine ev_lit rfl rfl (fourB) 5 4 (by first | (go_simp; done) | (go_simp; rfl)) ?_; intro g2 W5 hg2 hsz hbn; have hgr := grown_of_below hbn; have ng1g2 : g1 ≠ g2 := (by have := hg1.lt; omega); have zg2 : w.heap.size ≤ g2 := (by have := HB.size; omega); replace hg1 := hg1.grown hgr (by simp); replace o5 := o5.kept hgr (by cases Value.ownBlock _ <;> simp); replace HB := HB.grown hgr (by have := HB.size; omega) (by simp); have hcg2 := hg2.cell; have hfg2 := hg2.frozen; replace hcg1 := hg1.cell; replace hfg1 := hg1.frozen; clear hsz hbn hgr)
    | (go_at_call 47; (with_reducible refine (decode_end g2 _ (HT.out.next HB) hg2).mono ?_); rintro e W6 ⟨rfl, hb⟩; have hgr := grown_of_below hb; replace hg1 := hg1.grown hgr (by simp); replace hg2 := hg2.grown hgr (by simp); replace o5 := o5.kept hgr (by cases Value.ownBlock _ <;> simp); replace HB := HB.grown hgr (by have := HB.size; omega) (by simp); replace hcg1 := hg1.cell; replace hfg1 := hg1.frozen; replace hcg2 := hg2.cell; replace hfg2 := hg2.frozen; clear hb hgr)
    | ((with_reducible refine gate_dst (N := 6) rfl ?_); refine ev_alloc rfl rfl _ rec_zero ?_; intro g3 W7 hg3 hsz hbn; have hgr := grown_of_below hbn; have ng1g3 : g1 ≠ g3 := (by have := hg1.lt; omega); replace hg3 : Blk W7 g3 _ (Rec.zero.cells none 0) := hg3; have zg3 : w.heap.size ≤ g3 := (by have := HB.size; omega); replace hg1 := hg1.grown hgr (by simp); replace o5 := o5.kept hgr (by cases Value.ownBlock _ <;> simp); replace HB := HB.grown hgr (by have := HB.size; omega) (by simp); have hcg3 := hg3.cell; have hfg3 := hg3.frozen; replace hcg1 := hg1.cell; replace hfg1 := hg1.frozen; clear hsz hbn hgr)
    | ((with_reducible refine gate_store (p := 6) rfl ?_); refine ev_store_row (cs := endC.cells none 0) rfl rfl rfl hg3 rfl rfl rec_size rfl (cells_one _ _ _) ?_; intro W8 hgn hgr; replace hg1 := hg1.grown hgr (by intro e; injection e with e; omega); replace o5 := o5.kept hgr (.inr (own_blk_ne o5 hg3 (by decide))); replace HB := HB.grown hgr (by have := HB.size; omega) (by intro k e; injection e with e; omega); replace hg3 := hgn; replace hcg1 := hg1.cell; replace hfg1 := hg1.frozen; replace hcg3 := hg3.cell; replace hfg3 := hg3.frozen; clear hgn hgr)
    | ((with_reducible refine gate_dst (N := 25) rfl ?_); refine wpList_load_row rfl _ _ rfl g1 rfl _ _ (0, 0) _ hg1 Tryd.underlying27 rfl rec_size ?_)
    | (go_at_call 52; clear m1; (with_reducible refine (endC_check _ (HT.out.next HB)).mono ?_); rintro e W9 ⟨rfl, hb⟩; have hgr := grown_of_below hb; replace hg1 := hg1.grown hgr (by simp); replace hg3 := hg3.grown hgr (by simp); replace o5 := o5.kept hgr (by cases Value.ownBlock _ <;> simp); replace HB := HB.grown hgr (by have := HB.size; omega) (by simp); replace hcg1 := hg1.cell; replace hfg1 := hg1.frozen; replace hcg3 := hg3.cell; replace hfg3 := hg3.frozen; clear hb hgr)
    | (go_at_call 53; (with_reducible refine (num3_calls _ _).mono ?_); rintro e w1 ⟨rfl, rfl⟩)
    | (go_at_call 57; (with_reducible refine (four_alike _ _ _ _ _ (Reads.of_own (own_next o5 (below_alloc (Below.refl _ _) _))) ((Blk.new _ _ _).reads (size := 1) (n := 4) rfl)).mono ?_); rintro e WA ⟨rfl, hb1⟩; have hb := below_go (below_alloc (Below.refl _ _) _) hb1; replace o5 := own_next o5 hb; replace hg1 := hg1.next hb; replace hg3 := hg3.next hb; replace HB := below_go HB hb; replace hcg1 := hg1.cell; replace hfg1 := hg1.frozen; replace hcg3 := hg3.cell; replace hfg3 := hg3.frozen; clear hb hb1)
    | ((with_reducible refine gate_dst (N := 55) rfl ?_); (first | (refine wpList_ungate ?_ ?_; focus (first | rfl | (simp [Region.wanted, yielded]; done))) | (refine wpList_ungate (by first | rfl | simp [Region.wanted, yielded]) ?_)); refine wpList_load_row rfl _ _ rfl g1 rfl _ _ (0, 0) _ hg1 Tryd.underlying27 rfl rec_size ?_)
    | ((with_reducible refine gate_dst (N := 56) rfl ?_); (first | (refine wpList_ungate ?_ ?_; focus (first | rfl | (simp [Region.wanted, yielded]; done))) | (refine wpList_ungate (by first | rfl | simp [Region.wanted, yielded]) ?_)); refine wpList_load_row rfl _ _ rfl g3 rfl _ _ (0, 0) _ hg3 Tryd.underlying27 rfl rec_size ?_)
    | (go_at_call 42; (with_reducible refine (same3 endC none none 0 0 _ RB.nil RB.nil (by decide)).mono ?_); rintro e W10 ⟨rfl, hb⟩; have hgr := grown_of_below hb; replace hg1 := hg1.grown hgr (by simp); replace hg3 := hg3.grown hgr (by simp); replace o5 := o5.kept hgr (by cases Value.ownBlock _ <;> simp); replace HB := HB.grown hgr (by have := HB.size; omega) (by simp); replace hcg1 := hg1.cell; replace hfg1 := hg1.frozen; replace hcg3 := hg3.cell; replace hfg3 := hg3.frozen; clear hb hgr)
    | (go_at_call 52; (with_reducible refine (check_none _ (HT.out.next HB)).mono ?_); rintro e W11 ⟨rfl, hb⟩; have hgr := grown_of_below hb; replace hg1 := hg1.grown hgr (by simp); replace hg3 := hg3.grown hgr (by simp); replace o5 := o5.kept hgr (by cases Value.ownBlock _ <;> simp); replace HB := HB.grown hgr (by have := HB.size; omega) (by simp); replace hcg1 := hg1.cell; replace hfg1 := hg1.frozen; replace hcg3 := hg3.cell; replace hfg3 := hg3.frozen; clear hb hgr))
  go_ret
  exact ⟨rfl, HB⟩

end Go.Proofs.YtikodgaomhmbmaaDoor
namespace Go.Proofs.YtikodgaomhmbmaaDoor
open Go.RowKit
attribute [local go_sem] Rec.size_ Rec.g0 Rec.g1 Rec.g2 Rec.g3 Rec.g4 Rec.g5 Rec.g6 Rec.g7 Rec.g8 Rec.g9 Rec.g10 Rec.g11 Rec.fold

/-- How a field's value is written. -/
def Rec.valB (r : Rec) (t : Nat) : List UInt8 :=
  if t = 7 then intL r.Code else if t = 10 then bytesL r.Name.data.toList else if t = 11 then bytesL r.Data else uintL (IntKind.u64.wrap (r.num t)).toNat
def Rec.tagB (r : Rec) (t : Nat) : List UInt8 := if r.zeroAt t then [] else uintL t ++ r.valB t
/-- The bytes of the tags from 1 to n. -/
def Rec.encTo (r : Rec) : Nat → List UInt8
  | 0 => []
  | n + 1 => r.encTo n ++ r.tagB (n + 1)
def Rec.enc (r : Rec) : List UInt8 := r.encTo 11

theorem wrap_range (n : Int) : 0 ≤ IntKind.u64.wrap n ∧ IntKind.u64.wrap n < 18446744073709551616 := by rw [IntKind.wrap_u64]; omega
/-- A name and a Data within the bounds. -/
def Rec.Small (r : Rec) : Prop := r.Name.size ≤ 192 ∧ r.Data.length ≤ 16384
theorem valid_small {r : Rec} (h : r.chk = 0) : r.Small := by
  obtain ⟨v, k, hv, hk, h1, h2, _, hval⟩ := (chk_valid r).1 h
  have h10 := hval 10 (by omega) (by omega)
  have h11 := hval 11 (by omega) (by omega)
  constructor
  · by_cases hm : may v k 10 = true
    · rw [if_pos hm, b10] at h10
      exact name_size h10
    · rw [if_neg hm, z10] at h10
      rw [h10]
      decide
  · by_cases hm : may v k 11 = true
    · rw [if_pos hm, b11] at h11
      exact h11.1
    · rw [if_neg hm, z11] at h11
      rw [h11]
      decide
theorem intL_short (v : Int) : (intL v).length ≤ 65 := by
  obtain ⟨z1, z2⟩ := zig_range v
  exact uintL_short (by omega)
theorem tagB_short {r : Rec} (h : r.Small) (t : Nat) (ht : t ≤ 11) : (r.tagB t).length ≤ 16600 := by
  unfold Rec.tagB
  split
  · simp
  · have h0 := uintL_short (v := t) (by omega)
    have hv : (r.valB t).length ≤ 16500 := by
      unfold Rec.valB
      split
      · have := intL_short r.Code; omega
      · split
        · have := h.1
          have e : r.Name.data.toList.length = r.Name.size := rfl
          have := uintL_short (v := r.Name.data.toList.length) (by omega)
          simp only [bytesL, List.length_append]
          omega
        · split
          · have := h.2
            have := uintL_short (v := r.Data.length) (by omega)
            simp only [bytesL, List.length_append]
            omega
          · have w1 := wrap_range (r.num t)
            have := uintL_short (v := (IntKind.u64.wrap (r.num t)).toNat) (by omega)
            omega
    rw [List.length_append]
    omega
theorem encTo_short {r : Rec} (h : r.Small) : ∀ n, n ≤ 11 → (r.encTo n).length ≤ n * 16600
  | 0, _ => by simp [Rec.encTo]
  | n + 1, hn => by
    have := encTo_short h n (by omega)
    have := tagB_short h (n + 1) hn
    simp only [Rec.encTo, List.length_append]
    omega
theorem zeroAny_calls (r : Rec) (A : Option Addr) (c g t : Nat) (h1 : 1 ≤ t) (h11 : t ≤ 11) (w : World) (hg : Blk w g 27 (r.cells A c)) :
    Calls Tryd.prog 71 #[.pointer (some ⟨g, 0, none⟩), .int .i64 t] w fun e w' => e = .returned (.bool (r.zeroAt t)) ∧ w = w' := by
  by_cases e1 : t = 1
  · subst e1; exact zero1_calls r A c g w hg
  by_cases e2 : t = 2
  · subst e2; exact zero2_calls r A c g w hg
  exact zero_calls r A c g t (by omega) h11 w hg

set_option maxHeartbeats 4000000 in
set_option maxRecDepth 100000 in
theorem encode_calls (r : Rec) (A : Option Addr) (c : Nat) (hf : r.Fits) (w : World) (hT : Tabs w) (hd : RB w A r.Data) (hc : r.chk = 0) :
    Calls Tryd.prog 49 #[.agg (r.cells A c)] w fun e w' => ∃ A' c', e = .returned (.tuple #[.slice A' r.enc.length c', .int .i64 0]) ∧ w'.ownsRow w.heap.size 5 1 (.slice A' r.enc.length c') r.enc.length (u8s r.enc) ∧ Below w.heap.size w w' := by
  have HB := Below.refl w.heap.size w
  have HT := Lib.hid hT
  have hsm := valid_small hc
  have cc := fun w => check_calls r A c hf w
  rw [hc] at cc
  have Cc := Lib.hid cc
  have Hsm := Lib.hid hsm
  clear hT cc hsm hc
  go_enter Tryd.func49, Tryd.ntmps49
  go_wp2_with (first
    | ((with_reducible refine gate_dst (N := 1) rfl ?_); refine ev_box rfl rfl (r.cells A c) rfl ?_; intro g1 W1 hg1 hsz hbn; have hgr := grown_of_below hbn; have zg1 : w.heap.size ≤ g1 := (by have := HB.size; omega); replace HB := HB.grown hgr (by have := HB.size; omega) (by simp); have hcg1 := hg1.cell; have hfg1 := hg1.frozen; clear hsz hbn hgr)
    | ((with_reducible refine gate_dst (N := 7) rfl ?_); refine wpList_load_row rfl _ _ rfl g1 rfl _ _ (0, 0) _ hg1 Tryd.underlying27 rfl rec_size ?_)
    | (go_at_call 52; (with_reducible refine (Cc.out _ (HT.out.next HB) (hd.next HB)).mono ?_); rintro e W2 ⟨rfl, hb⟩; have hgr := grown_of_below hb; replace hg1 := hg1.grown hgr (by simp); replace HB := HB.grown hgr (by have := HB.size; omega) (by simp); replace hcg1 := hg1.cell; replace hfg1 := hg1.frozen; clear hb hgr))
  go_loopg [5, 6] 11 (fun n v5 v6 wr => ∃ (t : Nat) (A5 : Option Addr) (c5 : Nat) (acc : List UInt8), n + t = 12 ∧ 1 ≤ t ∧ v6 = .int .i64 t ∧ v5 = .slice A5 acc.length c5 ∧ Aside (acc = r.encTo (t - 1) ∧ Blk wr g1 _ (r.cells A c) ∧ wr.ownsRow w.heap.size 5 1 (.slice A5 acc.length c5) acc.length (u8s acc) ∧ Below w.heap.size w wr))
  case atStart => exact ⟨1, none, 0, [], by omega, by omega, rfl, rfl, ⟨rfl, hg1, own_nil _ _ _ _, HB⟩⟩
  case round =>
    clear hg1 hcg1 hfg1 HB
    obtain ⟨t, A5, c5, acc, hn, h1t, rfl, rfl, HA⟩ := hrel
    obtain ⟨hacc, hg1, oA, HB⟩ := HA.out
    clear HA
    have hcg1 := hg1.cell
    have hfg1 := hg1.frozen
    by_cases hle : t ≤ 11
    · have hlen : acc.length ≤ 182600 := by rw [hacc]; have := encTo_short Hsm.out (t - 1) (by omega); omega
      have hbl := tagB_short Hsm.out t hle
      have hnext : r.encTo t = acc ++ r.tagB t := by
        obtain ⟨j, rfl⟩ : ∃ j, t = j + 1 := ⟨t - 1, by omega⟩
        rw [hacc]
        rfl
      have tw : IntKind.u64.wrap (t : Int) = t := by rw [IntKind.wrap_u64]; omega
      have hut := uintL_short (v := t) (by omega)
      have m1 : True := trivial
      clear hacc
      cases hz : r.zeroAt t
      · have e0 : r.tagB t = uintL t ++ r.valB t := by unfold Rec.tagB; rw [hz]; rfl
        rw [e0] at hnext hbl
        rw [List.length_append] at hbl
        by_cases e7 : t = 7
        · have e1 : r.valB t = intL r.Code := by unfold Rec.valB; rw [if_pos e7]
          rw [e1] at hnext hbl
          have t7 : ((t : Int) == 7) = true := by simp [e7]
          have cu := int_calls r.Code
          generalize intL r.Code = vb at hnext hbl cu
          have Hnext := Lib.hid hnext
          have Cu := Lib.hid cu
          clear hnext cu e0 e1 e7
          go_wp2_with (first
            | (go_at_call 71; (with_reducible refine (zeroAny_calls r A c g1 t h1t hle _ hg1).mono ?_); rintro e w1 ⟨rfl, rfl⟩; rw [hz])
            | (go_at_call 73; clear m1; (with_reducible refine (uint_calls t (by omega) _).mono ?_); rintro e W1 ⟨A6, c6, rfl, o6, hb⟩; have hgr := grown_of_below hb; have doAo6 := own_apart oA o6 (Nat.le_refl _); replace o6 := own_mono o6 HB.size; replace hg1 := hg1.grown hgr (by simp); replace oA := oA.kept hgr (by cases Value.ownBlock _ <;> simp); replace HB := HB.grown hgr (by have := HB.size; omega) (by simp); replace hcg1 := hg1.cell; replace hfg1 := hg1.frozen; clear hb hgr)
            | ((with_reducible refine gate_dst (N := 22) rfl ?_); refine ev_append rfl rfl Tryd.underlying25 info_u8 rfl (by omega) rfl oA rfl (Reads.of_own o6) u8s_one (by omega) (by omega) (by have := HB.size; omega) ?_; intro A7 c7 W2 on hgr hat; replace hg1 := hg1.grown hgr (fun e => own_blk_ne oA hg1 (by decide) e.symm); replace HB := HB.grown hgr (by have := HB.size; omega) (own_base oA); replace oA := on; replace hcg1 := hg1.cell; replace hfg1 := hg1.frozen; clear on hgr hat)
            | (go_at_call 74; (with_reducible refine (Cu.out _).mono ?_); rintro e W3 ⟨A8, c8, rfl, o8, hb⟩; have hgr := grown_of_below hb; have doAo8 := own_apart oA o8 (Nat.le_refl _); replace o8 := own_mono o8 HB.size; replace hg1 := hg1.grown hgr (by simp); replace oA := oA.kept hgr (by cases Value.ownBlock _ <;> simp); replace HB := HB.grown hgr (by have := HB.size; omega) (by simp); replace hcg1 := hg1.cell; replace hfg1 := hg1.frozen; clear hb hgr)
            | ((with_reducible refine gate_dst (N := 38) rfl ?_); refine ev_append rfl rfl Tryd.underlying25 info_u8 rfl (by omega) rfl oA rfl (Reads.of_own o8) u8s_one (by omega) (by omega) (by have := HB.size; omega) ?_; intro A9 c9 W4 on hgr hat; replace hg1 := hg1.grown hgr (fun e => own_blk_ne oA hg1 (by decide) e.symm); replace HB := HB.grown hgr (by have := HB.size; omega) (own_base oA); replace oA := on; replace hcg1 := hg1.cell; replace hfg1 := hg1.frozen; clear on hgr hat))
          go_roundg (gk - 1)
          case measure => omega
          case rel => exact ⟨t + 1, A9, c9, r.encTo t, by omega, by omega, by go_num, by rw [Hnext.out]; simp [Nat.add_assoc], ⟨rfl, hg1, by rw [Hnext.out, u8s_append, u8s_append]; simpa [Nat.add_assoc] using oA, HB⟩⟩
        by_cases e10 : t = 10
        · have e1 : r.valB t = bytesL r.Name.data.toList := by unfold Rec.valB; rw [if_neg e7, if_pos e10]
          rw [e1] at hnext hbl
          have t7 : ((t : Int) == 7) = false := int_beq_false (by omega)
          have t10 : ((t : Int) == 10) = true := by simp [e10]
          have hnl : r.Name.data.toList.length ≤ 140737488351232 := hf.name
          have cu : ∀ (A : Option Addr) (c : Nat) (w : World), RB w A r.Name.data.toList → Calls Tryd.prog 75 #[.slice A r.Name.size c] w fun e w' => ∃ A' c', e = .returned (.slice A' (bytesL r.Name.data.toList).length c') ∧ w'.ownsRow w.heap.size 5 1 (.slice A' (bytesL r.Name.data.toList).length c') (bytesL r.Name.data.toList).length (u8s (bytesL r.Name.data.toList)) ∧ Below w.heap.size w w' := fun A c w h => bytes_calls r.Name.data.toList A c hnl w h
          generalize bytesL r.Name.data.toList = vb at hnext hbl cu
          have Hnext := Lib.hid hnext
          have Cu := Lib.hid cu
          clear hnext cu e0 e1 e7 e10
          go_wp2_with (first
            | (go_at_call 71; (with_reducible refine (zeroAny_calls r A c g1 t h1t hle _ hg1).mono ?_); rintro e w1 ⟨rfl, rfl⟩; rw [hz])
            | (go_at_call 73; clear m1; (with_reducible refine (uint_calls t (by omega) _).mono ?_); rintro e W1 ⟨A6, c6, rfl, o6, hb⟩; have hgr := grown_of_below hb; have doAo6 := own_apart oA o6 (Nat.le_refl _); replace o6 := own_mono o6 HB.size; replace hg1 := hg1.grown hgr (by simp); replace oA := oA.kept hgr (by cases Value.ownBlock _ <;> simp); replace HB := HB.grown hgr (by have := HB.size; omega) (by simp); replace hcg1 := hg1.cell; replace hfg1 := hg1.frozen; clear hb hgr)
            | ((with_reducible refine gate_dst (N := 22) rfl ?_); refine ev_append rfl rfl Tryd.underlying25 info_u8 rfl (by omega) rfl oA rfl (Reads.of_own o6) u8s_one (by omega) (by omega) (by have := HB.size; omega) ?_; intro A7 c7 W2 on hgr hat; replace hg1 := hg1.grown hgr (fun e => own_blk_ne oA hg1 (by decide) e.symm); replace HB := HB.grown hgr (by have := HB.size; omega) (own_base oA); replace oA := on; replace hcg1 := hg1.cell; replace hfg1 := hg1.frozen; clear on hgr hat)
            | ((with_reducible refine gate_dst (N := 44) rfl ?_); refine ev_bytes rfl rfl Tryd.underlying9 Tryd.underlying25 Tryd.underlying5 rfl ?_; intro AB cB W3 hd7 hb; have hgr := grown_of_below hb; replace hg1 := hg1.grown hgr (by simp); replace oA := oA.kept hgr (by cases Value.ownBlock _ <;> simp); replace HB := HB.grown hgr (by have := HB.size; omega) (by simp); replace hcg1 := hg1.cell; replace hfg1 := hg1.frozen; clear hb hgr)
            | (go_at_call 75; (with_reducible refine (Cu.out _ _ _ hd7.rb).mono ?_); rintro e W4 ⟨A8, c8, rfl, o8, hb⟩; have hgr := grown_of_below hb; have doAo8 := own_apart oA o8 (Nat.le_refl _); replace o8 := own_mono o8 HB.size; replace hd7 := hd7.kept hgr (by simp); replace hg1 := hg1.grown hgr (by simp); replace oA := oA.kept hgr (by cases Value.ownBlock _ <;> simp); replace HB := HB.grown hgr (by have := HB.size; omega) (by simp); replace hcg1 := hg1.cell; replace hfg1 := hg1.frozen; clear hb hgr)
            | ((with_reducible refine gate_dst (N := 46) rfl ?_); refine ev_append rfl rfl Tryd.underlying25 info_u8 rfl (by omega) rfl oA rfl (Reads.of_own o8) u8s_one (by omega) (by omega) (by have := HB.size; omega) ?_; intro A9 c9 W5 on hgr hat; replace hg1 := hg1.grown hgr (fun e => own_blk_ne oA hg1 (by decide) e.symm); replace HB := HB.grown hgr (by have := HB.size; omega) (own_base oA); replace oA := on; replace hcg1 := hg1.cell; replace hfg1 := hg1.frozen; clear on hgr hat))
          go_roundg (gk - 1)
          case measure => omega
          case rel => exact ⟨t + 1, A9, c9, r.encTo t, by omega, by omega, by go_num, by rw [Hnext.out]; simp [Nat.add_assoc], ⟨rfl, hg1, by rw [Hnext.out, u8s_append, u8s_append]; simpa [Nat.add_assoc] using oA, HB⟩⟩
        by_cases e11 : t = 11
        · have e1 : r.valB t = bytesL r.Data := by unfold Rec.valB; rw [if_neg e7, if_neg e10, if_pos e11]
          rw [e1] at hnext hbl
          have t7 : ((t : Int) == 7) = false := int_beq_false (by omega)
          have t10 : ((t : Int) == 10) = false := int_beq_false (by omega)
          have t11 : ((t : Int) == 11) = true := by simp [e11]
          have cu := fun w h => bytes_calls r.Data A c hf.data w h
          generalize bytesL r.Data = vb at hnext hbl cu
          have Hnext := Lib.hid hnext
          have Cu := Lib.hid cu
          clear hnext cu e0 e1 e7 e10 e11
          go_wp2_with (first
            | (go_at_call 71; (with_reducible refine (zeroAny_calls r A c g1 t h1t hle _ hg1).mono ?_); rintro e w1 ⟨rfl, rfl⟩; rw [hz])
            | (go_at_call 73; clear m1; (with_reducible refine (uint_calls t (by omega) _).mono ?_); rintro e W1 ⟨A6, c6, rfl, o6, hb⟩; have hgr := grown_of_below hb; have doAo6 := own_apart oA o6 (Nat.le_refl _); replace o6 := own_mono o6 HB.size; replace hg1 := hg1.grown hgr (by simp); replace oA := oA.kept hgr (by cases Value.ownBlock _ <;> simp); replace HB := HB.grown hgr (by have := HB.size; omega) (by simp); replace hcg1 := hg1.cell; replace hfg1 := hg1.frozen; clear hb hgr)
            | ((with_reducible refine gate_dst (N := 22) rfl ?_); refine ev_append rfl rfl Tryd.underlying25 info_u8 rfl (by omega) rfl oA rfl (Reads.of_own o6) u8s_one (by omega) (by omega) (by have := HB.size; omega) ?_; intro A7 c7 W2 on hgr hat; replace hg1 := hg1.grown hgr (fun e => own_blk_ne oA hg1 (by decide) e.symm); replace HB := HB.grown hgr (by have := HB.size; omega) (own_base oA); replace oA := on; replace hcg1 := hg1.cell; replace hfg1 := hg1.frozen; clear on hgr hat)
            | (go_at_call 75; (with_reducible refine (Cu.out _ (hd.next HB)).mono ?_); rintro e W3 ⟨A8, c8, rfl, o8, hb⟩; have hgr := grown_of_below hb; have doAo8 := own_apart oA o8 (Nat.le_refl _); replace o8 := own_mono o8 HB.size; replace hg1 := hg1.grown hgr (by simp); replace oA := oA.kept hgr (by cases Value.ownBlock _ <;> simp); replace HB := HB.grown hgr (by have := HB.size; omega) (by simp); replace hcg1 := hg1.cell; replace hfg1 := hg1.frozen; clear hb hgr)
            | ((with_reducible refine gate_dst (N := 53) rfl ?_); refine ev_append rfl rfl Tryd.underlying25 info_u8 rfl (by omega) rfl oA rfl (Reads.of_own o8) u8s_one (by omega) (by omega) (by have := HB.size; omega) ?_; intro A9 c9 W4 on hgr hat; replace hg1 := hg1.grown hgr (fun e => own_blk_ne oA hg1 (by decide) e.symm); replace HB := HB.grown hgr (by have := HB.size; omega) (own_base oA); replace oA := on; replace hcg1 := hg1.cell; replace hfg1 := hg1.frozen; clear on hgr hat))
          go_roundg (gk - 1)
          case measure => omega
          case rel => exact ⟨t + 1, A9, c9, r.encTo t, by omega, by omega, by go_num, by rw [Hnext.out]; simp [Nat.add_assoc], ⟨rfl, hg1, by rw [Hnext.out, u8s_append, u8s_append]; simpa [Nat.add_assoc] using oA, HB⟩⟩
        have e1 : r.valB t = uintL (IntKind.u64.wrap (r.num t)).toNat := by unfold Rec.valB; rw [if_neg e7, if_neg e10, if_neg e11]
        rw [e1] at hnext hbl
        have t7 : ((t : Int) == 7) = false := int_beq_false (by omega)
        have t10 : ((t : Int) == 10) = false := int_beq_false (by omega)
        have t11 : ((t : Int) == 11) = false := int_beq_false (by omega)
        have h9 : t ≤ 9 := by omega
        have xr := Rec.num_get r A c t h1t h9
        obtain ⟨w1, w2⟩ := wrap_range (r.num t)
        have cu := fun w => uint_calls (IntKind.u64.wrap (r.num t)).toNat (by omega) w
        rw [Int.toNat_of_nonneg w1] at cu
        generalize uintL (IntKind.u64.wrap (r.num t)).toNat = vb at hnext hbl cu
        have Hnext := Lib.hid hnext
        have Cu := Lib.hid cu
        clear hnext cu e0 e1 e7 e10 e11
        go_wp2_with (first
          | (go_at_call 71; (with_reducible refine (zeroAny_calls r A c g1 t h1t hle _ hg1).mono ?_); rintro e w1 ⟨rfl, rfl⟩; rw [hz])
          | (go_at_call 73; clear m1; (with_reducible refine (uint_calls t (by omega) _).mono ?_); rintro e W1 ⟨A6, c6, rfl, o6, hb⟩; have hgr := grown_of_below hb; have doAo6 := own_apart oA o6 (Nat.le_refl _); replace o6 := own_mono o6 HB.size; replace hg1 := hg1.grown hgr (by simp); replace oA := oA.kept hgr (by cases Value.ownBlock _ <;> simp); replace HB := HB.grown hgr (by have := HB.size; omega) (by simp); replace hcg1 := hg1.cell; replace hfg1 := hg1.frozen; clear hb hgr)
          | ((with_reducible refine gate_dst (N := 22) rfl ?_); refine ev_append rfl rfl Tryd.underlying25 info_u8 rfl (by omega) rfl oA rfl (Reads.of_own o6) u8s_one (by omega) (by omega) (by have := HB.size; omega) ?_; intro A7 c7 W2 on hgr hat; replace hg1 := hg1.grown hgr (fun e => own_blk_ne oA hg1 (by decide) e.symm); replace HB := HB.grown hgr (by have := HB.size; omega) (own_base oA); replace oA := on; replace hcg1 := hg1.cell; replace hfg1 := hg1.frozen; clear on hgr hat)
          | (go_at_call 60; (with_reducible refine (number_calls g1 t h1t h9 _).mono ?_); rintro e w1 ⟨rfl, rfl⟩)
          | (go_at_call 73; (with_reducible refine (Cu.out _).mono ?_); rintro e W3 ⟨A8, c8, rfl, o8, hb⟩; have hgr := grown_of_below hb; have doAo8 := own_apart oA o8 (Nat.le_refl _); replace o8 := own_mono o8 HB.size; replace hg1 := hg1.grown hgr (by simp); replace oA := oA.kept hgr (by cases Value.ownBlock _ <;> simp); replace HB := HB.grown hgr (by have := HB.size; omega) (by simp); replace hcg1 := hg1.cell; replace hfg1 := hg1.frozen; clear hb hgr)
          | ((with_reducible refine gate_dst (N := 31) rfl ?_); refine ev_append rfl rfl Tryd.underlying25 info_u8 rfl (by omega) rfl oA rfl (Reads.of_own o8) u8s_one (by omega) (by omega) (by have := HB.size; omega) ?_; intro A9 c9 W4 on hgr hat; replace hg1 := hg1.grown hgr (fun e => own_blk_ne oA hg1 (by decide) e.symm); replace HB := HB.grown hgr (by have := HB.size; omega) (own_base oA); replace oA := on; replace hcg1 := hg1.cell; replace hfg1 := hg1.frozen; clear on hgr hat))
        go_roundg (gk - 1)
        case measure => omega
        case rel => exact ⟨t + 1, A9, c9, r.encTo t, by omega, by omega, by go_num, by rw [Hnext.out]; simp [Nat.add_assoc], ⟨rfl, hg1, by rw [Hnext.out, u8s_append, u8s_append]; simpa [Nat.add_assoc] using oA, HB⟩⟩
      · have e0 : r.tagB t = [] := by unfold Rec.tagB; rw [hz]; rfl
        rw [e0, List.append_nil] at hnext
        have Hnext := Lib.hid hnext
        clear hnext e0
        go_wp2_with (first
          | (go_at_call 71; (with_reducible refine (zeroAny_calls r A c g1 t h1t hle _ hg1).mono ?_); rintro e w1 ⟨rfl, rfl⟩; rw [hz]))
        go_roundg (gk - 1)
        case measure => omega
        case rel => exact ⟨t + 1, A5, c5, acc, by omega, by omega, by go_num, rfl, ⟨Hnext.out.symm, hg1, oA, HB⟩⟩
    · obtain rfl : t = 12 := by omega
      obtain rfl : acc = r.enc := hacc
      go_wp2
      go_ret2
      exact ⟨A5, c5, rfl, oA, HB⟩
end Go.Proofs.YtikodgaomhmbmaaDoor
namespace Go.Proofs.YtikodgaomhmbmaaDoor
open Go.RowKit
attribute [local go_sem] Rec.size_ Rec.g0 Rec.g1 Rec.g2 Rec.g3 Rec.g4 Rec.g5 Rec.g6 Rec.g7 Rec.g8 Rec.g9 Rec.g10 Rec.g11 Rec.fold Rec.same_self

set_option maxHeartbeats 1000000 in
set_option maxRecDepth 100000 in
theorem encode_bad (r : Rec) (A : Option Addr) (c : Nat) (k : Int) (hk : r.chk = k) (h0 : k ≠ 0) (hf : r.Fits) (w : World) (hT : Tabs w) (hd : RB w A r.Data) :
    Calls Tryd.prog 49 #[.agg (r.cells A c)] w fun e w' => e = .returned (.tuple #[.slice none 0 0, .int .i64 k]) ∧ Below w.heap.size w w' := by
  have HB := Below.refl w.heap.size w
  have HT := Lib.hid hT
  have t1 := int_bne_true h0
  have cc := fun w => check_calls r A c hf w
  rw [hk] at cc
  have Cc := Lib.hid cc
  clear hT cc hk h0
  go_enter Tryd.func49, Tryd.ntmps49
  go_wp2_with (first
    | ((with_reducible refine gate_dst (N := 1) rfl ?_); refine ev_box rfl rfl (r.cells A c) rfl ?_; intro g1 W1 hg1 hsz hbn; have hgr := grown_of_below hbn; have zg1 : w.heap.size ≤ g1 := (by have := HB.size; omega); replace HB := HB.grown hgr (by have := HB.size; omega) (by simp); have hcg1 := hg1.cell; have hfg1 := hg1.frozen; clear hsz hbn hgr)
    | ((with_reducible refine gate_dst (N := 7) rfl ?_); refine wpList_load_row rfl _ _ rfl g1 rfl _ _ (0, 0) _ hg1 Tryd.underlying27 rfl rec_size ?_)
    | (go_at_call 52; (with_reducible refine (Cc.out _ (HT.out.next HB) (hd.next HB)).mono ?_); rintro e W2 ⟨rfl, hb⟩; have hgr := grown_of_below hb; replace hg1 := hg1.grown hgr (by simp); replace HB := HB.grown hgr (by have := HB.size; omega) (by simp); replace hcg1 := hg1.cell; replace hfg1 := hg1.frozen; clear hb hgr))
  go_ret2
  exact ⟨rfl, HB⟩
set_option maxRecDepth 100000 in
theorem size_bad (r : Rec) (A : Option Addr) (c : Nat) (k : Int) (hk : r.chk = k) (h0 : k ≠ 0) (hf : r.Fits) (w : World) (hT : Tabs w) (hd : RB w A r.Data) :
    Calls Tryd.prog 51 #[.agg (r.cells A c)] w fun e w' => e = .returned (.tuple #[.int .i64 0, .int .i64 k]) ∧ Below w.heap.size w w' := by
  have HB := Below.refl w.heap.size w
  have HT := Lib.hid hT
  have ce := fun w => encode_bad r A c k hk h0 hf w
  have Ce := Lib.hid ce
  clear hT ce hk h0
  go_enter Tryd.func51, Tryd.ntmps51
  go_wp2_with (first
    | ((with_reducible refine gate_dst (N := 1) rfl ?_); refine ev_box rfl rfl (r.cells A c) rfl ?_; intro g1 W1 hg1 hsz hbn; have hgr := grown_of_below hbn; have zg1 : w.heap.size ≤ g1 := (by have := HB.size; omega); replace HB := HB.grown hgr (by have := HB.size; omega) (by simp); have hcg1 := hg1.cell; have hfg1 := hg1.frozen; clear hsz hbn hgr)
    | ((with_reducible refine gate_dst (N := 7) rfl ?_); refine wpList_load_row rfl _ _ rfl g1 rfl _ _ (0, 0) _ hg1 Tryd.underlying27 rfl rec_size ?_)
    | (go_at_call 49; (with_reducible refine (Ce.out _ (HT.out.next HB) (hd.next HB)).mono ?_); rintro e W2 ⟨rfl, hb⟩; have hgr := grown_of_below hb; replace hg1 := hg1.grown hgr (by simp); replace HB := HB.grown hgr (by have := HB.size; omega) (by simp); replace hcg1 := hg1.cell; replace hfg1 := hg1.frozen; clear hb hgr))
  go_ret2
  exact ⟨rfl, HB⟩
set_option maxRecDepth 100000 in
theorem size_calls (r : Rec) (A : Option Addr) (c : Nat) (hc : r.chk = 0) (hf : r.Fits) (w : World) (hT : Tabs w) (hd : RB w A r.Data) :
    Calls Tryd.prog 51 #[.agg (r.cells A c)] w fun e w' => e = .returned (.tuple #[.int .i64 r.enc.length, .int .i64 0]) ∧ Below w.heap.size w w' := by
  have HB := Below.refl w.heap.size w
  have HT := Lib.hid hT
  have ce := fun w hT hd => encode_calls r A c hf w hT hd hc
  have Ce := Lib.hid ce
  clear hT ce hc
  go_enter Tryd.func51, Tryd.ntmps51
  go_wp2_with (first
    | ((with_reducible refine gate_dst (N := 1) rfl ?_); refine ev_box rfl rfl (r.cells A c) rfl ?_; intro g1 W1 hg1 hsz hbn; have hgr := grown_of_below hbn; have zg1 : w.heap.size ≤ g1 := (by have := HB.size; omega); replace HB := HB.grown hgr (by have := HB.size; omega) (by simp); have hcg1 := hg1.cell; have hfg1 := hg1.frozen; clear hsz hbn hgr)
    | ((with_reducible refine gate_dst (N := 7) rfl ?_); refine wpList_load_row rfl _ _ rfl g1 rfl _ _ (0, 0) _ hg1 Tryd.underlying27 rfl rec_size ?_)
    | (go_at_call 49; (with_reducible refine (Ce.out _ (HT.out.next HB) (hd.next HB)).mono ?_); rintro e W2 ⟨A5, c5, rfl, o5, hb⟩; have hgr := grown_of_below hb; replace hg1 := hg1.grown hgr (by simp); replace HB := HB.grown hgr (by have := HB.size; omega) (by simp); replace hcg1 := hg1.cell; replace hfg1 := hg1.frozen; clear hb hgr))
  go_ret2
  exact ⟨rfl, HB⟩
end Go.Proofs.YtikodgaomhmbmaaDoor
namespace Go.Proofs.YtikodgaomhmbmaaDoor
open Go.RowKit
attribute [local go_sem] Rec.size_ Rec.g0 Rec.g1 Rec.g2 Rec.g3 Rec.g4 Rec.g5 Rec.g6 Rec.g7 Rec.g8 Rec.g9 Rec.g10 Rec.g11 Rec.fold Rec.same_self

theorem alike_same (l : List UInt8) (A B : Option Addr) (c d : Nat) (w : World) (ha : RB w A l) (hb : RB w B l) (hl : l.length ≤ 140737488351232) :
    Calls Tryd.prog 54 #[.slice A l.length c, .slice B l.length d] w fun e w' => e = .returned (.bool true) ∧ Below w.heap.size w w' := by
  have := alike_calls l l A B c d w ha hb hl hl
  simpa using this
set_option maxRecDepth 100000 in
theorem copied_calls (l : List UInt8) (A : Option Addr) (c : Nat) (hl : l.length ≤ 140737488351232) (w : World) (hd : RB w A l) :
    Calls Tryd.prog 12 #[.slice A l.length c] w fun e w' => ∃ A' c', e = .returned (.slice A' l.length c') ∧ w'.ownsRow w.heap.size 5 1 (.slice A' l.length c') l.length (u8s l) ∧ Below w.heap.size w w' := by
  have HB := Below.refl w.heap.size w
  go_enter Tryd.func12, Tryd.ntmps12
  go_wp2_with (first
    | ((with_reducible refine gate_dst (N := 6) rfl ?_); refine ev_append_nil rfl rfl Tryd.underlying25 info_u8 rfl (by omega) rfl rfl hd u8s_one (by omega) (by omega) ?_; intro A3 c3 W1 o3 hbn; have hgr := grown_of_below hbn; replace o3 := own_mono o3 HB.size; replace HB := HB.grown hgr (by have := HB.size; omega) (by simp); clear hbn hgr))
  go_ret
  exact ⟨A3, c3, rfl, o3, HB⟩
/-- What is owned has room. -/
theorem own_room {w : World} {base n c size : Nat} {A : Option Addr} {e : TypeId} {xs : List Value} (h : w.ownsRow base e size (.slice A n c) n xs) : n ≤ c := by
  rcases h.2 with ⟨hv, h0⟩ | ⟨g', cap, cur, hv, _, _, h1, h2, _⟩
  · omega
  · injection hv with _ _ hc
    omega
end Go.Proofs.YtikodgaomhmbmaaDoor
