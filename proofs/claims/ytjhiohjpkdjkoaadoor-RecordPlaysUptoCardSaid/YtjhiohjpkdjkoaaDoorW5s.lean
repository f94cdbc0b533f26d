/-
  The walk of annalslaw3.started.
-/
import Derived.Test.YtjhiohjpkdjkoaaDoorW4
set_option linter.unusedVariables false
set_option linter.unusedSimpArgs false
namespace Go.Proofs.YtjhiohjpkdjkoaaDoor
open Go.RowKit
attribute [local go_sem] Rec.size_ Rec.g0 Rec.g1 Rec.g2 Rec.g3 Rec.g4 Rec.g5 Rec.g6 Rec.g7 Rec.g8 Rec.g9 Rec.g10 Rec.g11 Rec.fold Rec.same_self

theorem num3_calls (v : Int) (w : World) : Calls Tryd.prog 53 #[.int .i64 v] w fun e w' => e = .returned (.int .i64 v) ∧ w = w' := by
  go_enter Tryd.func53, Tryd.ntmps53
  go_wp2
  go_ret
  exact ⟨rfl, rfl⟩
theorem four_alike (A B : Option Addr) (c d : Nat) (w : World) (ha : Reads w w.heap.size 1 A 4 [.int .u8 1, .int .u8 7, .int .u8 2, .int .u8 1]) (hb : Reads w w.heap.size 1 B 4 [.int .u8 1, .int .u8 7, .int .u8 2, .int .u8 1]) :
    Calls Tryd.prog 79 #[.slice A 4 c, .slice B 4 d] w fun e w' => e = .returned (.bool true) ∧ Below w.heap.size w w' := by
  have := refAlike_calls [1, 7, 2, 1] [1, 7, 2, 1] A B c d w ha hb (by decide) (by decide)
  simpa using this
theorem same3 (a : Rec) (A B : Option Addr) (c d : Nat) (w : World) (ha : RB w A a.Data) (hb : RB w B a.Data) (hl : a.Data.length ≤ 140737488351232) :
    Calls Tryd.prog 35 #[.agg (a.cells A c), .agg (a.cells B d)] w fun e w' => e = .returned (.bool true) ∧ Below w.heap.size w w' := by
  have := refSame_calls a a A B c d w ha hb hl hl
  rwa [Rec.same_self] at this
theorem check_none (w : World) (hT : Tabs w) : Calls Tryd.prog 75 #[.agg #[.int .i64 0, .int .i64 0, .int .i64 0, .int .i64 0, .int .i64 0, .int .i64 0, .int .i64 0, .int .i64 0, .int .i64 0, .int .i64 0, .string ⟨#[]⟩, .slice none 0 0]] w fun e w' => e = .returned (.int .i64 3) ∧ Below w.heap.size w w' :=
  check_calls Rec.zero none 0 Rec.Fits.zero w hT RB.nil

set_option maxHeartbeats 4000000 in
set_option maxRecDepth 100000 in
theorem started3_calls (w : World) (hT : Tabs w) :
    Calls Tryd.prog 36 #[] w fun e w' => e = .returned (.bool true) ∧ Below w.heap.size w w' := by
  have HB := Below.refl w.heap.size w
  have HT := Lib.hid hT
  have m1 : True := trivial
  clear hT
  go_enter Tryd.func36, Tryd.ntmps36
  go_wp2_with (first
    | ((with_reducible refine gate_dst (N := 1) rfl ?_); refine ev_alloc rfl rfl _ rec_zero ?_; intro g1 W1 hg1 hsz hbn; have hgr := grown_of_below hbn; replace hg1 : Blk W1 g1 _ (Rec.zero.cells none 0) := hg1; have zg1 : w.heap.size ≤ g1 := (by have := HB.size; omega); replace HB := HB.grown hgr (by have := HB.size; omega) (by simp); have hcg1 := hg1.cell; have hfg1 := hg1.frozen; clear hsz hbn hgr)
    | ((with_reducible refine gate_store (p := 1) rfl ?_); refine ev_store_row (cs := endC.cells none 0) rfl rfl rfl hg1 rfl rfl rec_size rfl (cells_one _ _ _) ?_; intro W2 hgn hgr; replace HB := HB.grown hgr (by have := HB.size; omega) (by intro k e; injection e with e; omega); replace hg1 := hgn; replace hcg1 := hg1.cell; replace hfg1 := hg1.frozen; clear hgn hgr)
    | ((with_reducible refine gate_dst (N := 11) rfl ?_); refine wpList_load_row rfl _ _ rfl g1 rfl _ _ (0, 0) _ hg1 Tryd.underlying35 rfl rec_size ?_)
    | (go_at_call 76; (with_reducible refine (encode_end _ (HT.out.next HB)).mono ?_); rintro e W3 ⟨A5, c5, rfl, o5, hb⟩; have hgr := grown_of_below hb; replace o5 := own_mono o5 HB.size; replace hg1 := hg1.grown hgr (by simp); replace HB := HB.grown hgr (by have := HB.size; omega) (by simp); replace hcg1 := hg1.cell; replace hfg1 := hg1.frozen; clear hb hgr)
    | ((with_reducible refine gate_dst (N := 16) rfl ?_); refine wpList_load_row rfl _ _ rfl g1 rfl _ _ (0, 0) _ hg1 Tryd.underlying35 rfl rec_size ?_)
    | (go_at_call 77; (with_reducible refine (size_end _ (HT.out.next HB)).mono ?_); rintro e W4 ⟨rfl, hb⟩; have hgr := grown_of_below hb; replace hg1 := hg1.grown hgr (by simp); replace o5 := o5.kept hgr (by cases Value.ownBlock _ <;> simp); replace HB := HB.grown hgr (by have := HB.size; omega) (by simp); replace hcg1 := hg1.cell; replace hfg1 := hg1.frozen; clear hb hgr)
    | ((with_reducible refine gate_dst (N := 21) rfl ?_); refine ev_lit rfl rfl (fourB) 5 4 (by first | (go_simp; done) | (go_simp; rfl)) ?_; intro g2 W5 hg2 hsz hbn; have hgr := grown_of_below hbn; have ng1g2 : g1 ≠ g2 := (by have := hg1.lt; omega); have zg2 : w.heap.size ≤ g2 := (by have := HB.size; omega); replace hg1 := hg1.grown hgr (by simp); replace o5 := o5.kept hgr (by cases Value.ownBlock _ <;> simp); replace HB := HB.grown hgr (by have := HB.size; omega) (by simp); have hcg2 := hg2.cell; have hfg2 := hg2.frozen; replace hcg1 := hg1.cell; replace hfg1 := hg1.frozen; clear hsz hbn hgr)
    | (go_at_call 52; (with_reducible refine (decode_end g2 _ (HT.out.next HB) hg2).mono ?_); rintro e W6 ⟨rfl, hb⟩; have hgr := grown_of_below hb; replace hg1 := hg1.grown hgr (by simp); replace hg2 := hg2.grown hgr (by simp); replace o5 := o5.kept hgr (by cases Value.ownBlock _ <;> simp); replace HB := HB.grown hgr (by have := HB.size; omega) (by simp); replace hcg1 := hg1.cell; replace hfg1 := hg1.frozen; replace hcg2 := hg2.cell; replace hfg2 := hg2.frozen; clear hb hgr)
    | ((with_reducible refine gate_dst (N := 6) rfl ?_); refine ev_alloc rfl rfl _ rec_zero ?_; intro g3 W7 hg3 hsz hbn; have hgr := grown_of_below hbn; have ng1g3 : g1 ≠ g3 := (by have := hg1.lt; omega); replace hg3 : Blk W7 g3 _ (Rec.zero.cells none 0) := hg3; have zg3 : w.heap.size ≤ g3 := (by have := HB.size; omega); replace hg1 := hg1.grown hgr (by simp); replace o5 := o5.kept hgr (by cases Value.ownBlock _ <;> simp); replace HB := HB.grown hgr (by have := HB.size; omega) (by simp); have hcg3 := hg3.cell; have hfg3 := hg3.frozen; replace hcg1 := hg1.cell; replace hfg1 := hg1.frozen; clear hsz hbn hgr)
    | ((with_reducible refine gate_store (p := 6) rfl ?_); refine ev_store_row (cs := endC.cells none 0) rfl rfl rfl hg3 rfl rfl rec_size rfl (cells_one _ _ _) ?_; intro W8 hgn hgr; replace hg1 := hg1.grown hgr (by intro e; injection e with e; omega); replace o5 := o5.kept hgr (.inr (own_blk_ne o5 hg3 (by decide))); replace HB := HB.grown hgr (by have := HB.size; omega) (by intro k e; injection e with e; omega); replace hg3 := hgn; replace hcg1 := hg1.cell; replace hfg1 := hg1.frozen; replace hcg3 := hg3.cell; replace hfg3 := hg3.frozen; clear hgn hgr)
    | ((with_reducible refine gate_dst (N := 25) rfl ?_); refine wpList_load_row rfl _ _ rfl g1 rfl _ _ (0, 0) _ hg1 Tryd.underlying35 rfl rec_size ?_)
    | (go_at_call 75; clear m1; (with_reducible refine (endC_check _ (HT.out.next HB)).mono ?_); rintro e W9 ⟨rfl, hb⟩; have hgr := grown_of_below hb; replace hg1 := hg1.grown hgr (by simp); replace hg3 := hg3.grown hgr (by simp); replace o5 := o5.kept hgr (by cases Value.ownBlock _ <;> simp); replace HB := HB.grown hgr (by have := HB.size; omega) (by simp); replace hcg1 := hg1.cell; replace hfg1 := hg1.frozen; replace hcg3 := hg3.cell; replace hfg3 := hg3.frozen; clear hb hgr)
    | (go_at_call 53; (with_reducible refine (num3_calls _ _).mono ?_); rintro e w1 ⟨rfl, rfl⟩)
    | (go_at_call 79; (with_reducible refine (four_alike _ _ _ _ _ (Reads.of_own (own_next o5 (below_alloc (Below.refl _ _) _))) ((Blk.new _ _ _).reads (size := 1) (n := 4) rfl)).mono ?_); rintro e WA ⟨rfl, hb1⟩; have hb := below_go (below_alloc (Below.refl _ _) _) hb1; replace o5 := own_next o5 hb; replace hg1 := hg1.next hb; replace hg3 := hg3.next hb; replace HB := below_go HB hb; replace hcg1 := hg1.cell; replace hfg1 := hg1.frozen; replace hcg3 := hg3.cell; replace hfg3 := hg3.frozen; clear hb hb1)
    | ((with_reducible refine gate_dst (N := 55) rfl ?_); (first | (refine wpList_ungate ?_ ?_; focus (first | rfl | (simp [Region.wanted, yielded]; done))) | (refine wpList_ungate (by first | rfl | simp [Region.wanted, yielded]) ?_)); refine wpList_load_row rfl _ _ rfl g1 rfl _ _ (0, 0) _ hg1 Tryd.underlying35 rfl rec_size ?_)
    | ((with_reducible refine gate_dst (N := 56) rfl ?_); (first | (refine wpList_ungate ?_ ?_; focus (first | rfl | (simp [Region.wanted, yielded]; done))) | (refine wpList_ungate (by first | rfl | simp [Region.wanted, yielded]) ?_)); refine wpList_load_row rfl _ _ rfl g3 rfl _ _ (0, 0) _ hg3 Tryd.underlying35 rfl rec_size ?_)
    | (go_at_call 35; (with_reducible refine (same3 endC none none 0 0 _ RB.nil RB.nil (by decide)).mono ?_); rintro e W10 ⟨rfl, hb⟩; have hgr := grown_of_below hb; replace hg1 := hg1.grown hgr (by simp); replace hg3 := hg3.grown hgr (by simp); replace o5 := o5.kept hgr (by cases Value.ownBlock _ <;> simp); replace HB := HB.grown hgr (by have := HB.size; omega) (by simp); replace hcg1 := hg1.cell; replace hfg1 := hg1.frozen; replace hcg3 := hg3.cell; replace hfg3 := hg3.frozen; clear hb hgr)
    | (go_at_call 75; (with_reducible refine (check_none _ (HT.out.next HB)).mono ?_); rintro e W11 ⟨rfl, hb⟩; have hgr := grown_of_below hb; replace hg1 := hg1.grown hgr (by simp); replace hg3 := hg3.grown hgr (by simp); replace o5 := o5.kept hgr (by cases Value.ownBlock _ <;> simp); replace HB := HB.grown hgr (by have := HB.size; omega) (by simp); replace hcg1 := hg1.cell; replace hfg1 := hg1.frozen; replace hcg3 := hg3.cell; replace hfg3 := hg3.frozen; clear hb hgr))
  go_ret
  exact ⟨rfl, HB⟩

end Go.Proofs.YtjhiohjpkdjkoaaDoor
