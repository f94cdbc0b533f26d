/-
  The walks of lift.Down, lift.Least, annalslaw4.started.
-/
import Derived.Test.YtjhiohjpkdjkoaaDoorDE
import Derived.Test.YtjhiohjpkdjkoaaDoorD5
set_option linter.unusedVariables false
set_option linter.unusedSimpArgs false
namespace Go.Proofs.YtjhiohjpkdjkoaaDoor
open Go.RowKit
attribute [local go_sem] Rec.size_ Rec.g0 Rec.g1 Rec.g2 Rec.g3 Rec.g4 Rec.g5 Rec.g6 Rec.g7 Rec.g8 Rec.g9 Rec.g10 Rec.g11 Rec.fold Rec.lit_fold Rec.same_self

set_option maxHeartbeats 2000000 in
set_option maxRecDepth 100000 in
theorem down_calls (r : Rec) (A : Option Addr) (c : Nat) (to : Int) (hf : r.Fits) (w : World) (hT : Tabs w) (ht : Tab w 2 waysL) (hd : RB w A r.Data) :
    Calls Tryd.prog 50 #[.agg (r.cells A c), .int .i64 to] w fun e w' => ∃ A' c', e = .returned (.tuple #[.agg ((downR r to).cells A' c'), .int .i64 (downE r to)]) ∧ RU w' A' (downR r to).Data ∧ Below w.heap.size w w' := by
  have HB := Below.refl w.heap.size w
  have HT := Lib.hid hT
  have Ht := Lib.hid ht
  clear hT ht
  by_cases hc : r.chk = 0
  · have t1 := int_bne_false hc
    have hv3 : 1 ≤ r.V ∧ r.V ≤ 3 := ((chk_ok r).1 hc).1
    cases hk : known to
    · have e1 : downE r to = 3 := by unfold downE; rw [if_neg (by rw [hc]; simp), hk, if_pos (by decide)]
      have e2 : downR r to = Rec.zero := by unfold downR; rw [e1, if_neg (by decide)]
      rw [e1, e2]
      have hk' : (decide (1 ≤ to) && decide (to ≤ 3)) = false := hk
      clear hc e1 e2 hv3 hk
      go_enter Tryd.func50, Tryd.ntmps50
      go_wp2_with (first
        | ((with_reducible refine gate_dst (N := 2) rfl ?_); refine ev_box rfl rfl (r.cells A c) rfl ?_; intro g1 W1 hg1 hsz hbn; have hgr := grown_of_below hbn; have zg1 : w.heap.size ≤ g1 := (by have := HB.size; omega); replace HB := HB.grown hgr (by have := HB.size; omega) (by simp); have hcg1 := hg1.cell; have hfg1 := hg1.frozen; clear hsz hbn hgr)
        | ((with_reducible refine gate_dst (N := 4) rfl ?_); refine ev_alloc rfl rfl _ rec_zero ?_; intro g2 W2 hg2 hsz hbn; have hgr := grown_of_below hbn; have ng1g2 : g1 ≠ g2 := (by have := hg1.lt; omega); replace hg2 : Blk W2 g2 _ (Rec.zero.cells none 0) := hg2; have zg2 : w.heap.size ≤ g2 := (by have := HB.size; omega); replace hg1 := hg1.grown hgr (by simp); replace HB := HB.grown hgr (by have := HB.size; omega) (by simp); have hcg2 := hg2.cell; have hfg2 := hg2.frozen; replace hcg1 := hg1.cell; replace hfg1 := hg1.frozen; clear hsz hbn hgr)
        | ((with_reducible refine gate_dst (N := 9) rfl ?_); refine wpList_load_row rfl _ _ rfl g1 rfl _ _ (0, 0) _ hg1 Tryd.underlying35 rfl rec_size ?_)
        | (go_at_call 75; (with_reducible refine (check_calls r A c hf _ (HT.out.next HB) (hd.next HB)).mono ?_); rintro e W3 ⟨rfl, hb⟩; have hgr := grown_of_below hb; replace hg1 := hg1.grown hgr (by simp); replace hg2 := hg2.grown hgr (by simp); replace HB := HB.grown hgr (by have := HB.size; omega) (by simp); replace hcg1 := hg1.cell; replace hfg1 := hg1.frozen; replace hcg2 := hg2.cell; replace hfg2 := hg2.frozen; clear hb hgr)
        | (go_at_call 86; (with_reducible refine (known_calls _ _).mono ?_); rintro e w1 ⟨rfl, rfl⟩; rw [hk'])
        | ((with_reducible refine gate_store (p := 4) rfl ?_); refine ev_store_row (cs := Rec.zero.cells none 0) rfl rfl rfl hg2 rfl rfl rec_size rfl (cells_one _ _ _) ?_; intro W4 hgn hgr; replace hg1 := hg1.grown hgr (by intro e; injection e with e; omega); replace HB := HB.grown hgr (by have := HB.size; omega) (by intro k e; injection e with e; omega); replace hg2 := hgn; replace hcg1 := hg1.cell; replace hfg1 := hg1.frozen; replace hcg2 := hg2.cell; replace hfg2 := hg2.frozen; clear hgn hgr))
      refine ret_row rfl hg2 rfl Tryd.underlying35 rfl rec_size rfl ?_
      exact ⟨none, 0, rfl, RU.nil, HB⟩
    · have hk' : (decide (1 ≤ to) && decide (to ≤ 3)) = true := hk
      have hto : Ver to := by
        simp only [Bool.and_eq_true, decide_eq_true_eq] at hk'
        exact Ver.of hk'.1 hk'.2
      by_cases hlt : r.V < to
      · have e1 : downE r to = 41 := by unfold downE; rw [if_neg (by rw [hc]; simp), hk, if_neg (by decide), if_pos hlt]
        have e2 : downR r to = Rec.zero := by unfold downR; rw [e1, if_neg (by decide)]
        rw [e1, e2]
        have t2 : decide (r.V < to) = true := by simp [hlt]
        clear hc e1 e2 hlt hv3 hk hto
        go_enter Tryd.func50, Tryd.ntmps50
        go_wp2_with (first
          | ((with_reducible refine gate_dst (N := 2) rfl ?_); refine ev_box rfl rfl (r.cells A c) rfl ?_; intro g1 W1 hg1 hsz hbn; have hgr := grown_of_below hbn; have zg1 : w.heap.size ≤ g1 := (by have := HB.size; omega); replace HB := HB.grown hgr (by have := HB.size; omega) (by simp); have hcg1 := hg1.cell; have hfg1 := hg1.frozen; clear hsz hbn hgr)
          | ((with_reducible refine gate_dst (N := 4) rfl ?_); refine ev_alloc rfl rfl _ rec_zero ?_; intro g2 W2 hg2 hsz hbn; have hgr := grown_of_below hbn; have ng1g2 : g1 ≠ g2 := (by have := hg1.lt; omega); replace hg2 : Blk W2 g2 _ (Rec.zero.cells none 0) := hg2; have zg2 : w.heap.size ≤ g2 := (by have := HB.size; omega); replace hg1 := hg1.grown hgr (by simp); replace HB := HB.grown hgr (by have := HB.size; omega) (by simp); have hcg2 := hg2.cell; have hfg2 := hg2.frozen; replace hcg1 := hg1.cell; replace hfg1 := hg1.frozen; clear hsz hbn hgr)
          | ((with_reducible refine gate_dst (N := 9) rfl ?_); refine wpList_load_row rfl _ _ rfl g1 rfl _ _ (0, 0) _ hg1 Tryd.underlying35 rfl rec_size ?_)
          | (go_at_call 75; (with_reducible refine (check_calls r A c hf _ (HT.out.next HB) (hd.next HB)).mono ?_); rintro e W3 ⟨rfl, hb⟩; have hgr := grown_of_below hb; replace hg1 := hg1.grown hgr (by simp); replace hg2 := hg2.grown hgr (by simp); replace HB := HB.grown hgr (by have := HB.size; omega) (by simp); replace hcg1 := hg1.cell; replace hfg1 := hg1.frozen; replace hcg2 := hg2.cell; replace hfg2 := hg2.frozen; clear hb hgr)
          | (go_at_call 86; (with_reducible refine (known_calls _ _).mono ?_); rintro e w1 ⟨rfl, rfl⟩; rw [hk'])
          | ((with_reducible refine gate_store (p := 4) rfl ?_); refine ev_store_row (cs := Rec.zero.cells none 0) rfl rfl rfl hg2 rfl rfl rec_size rfl (cells_one _ _ _) ?_; intro W4 hgn hgr; replace hg1 := hg1.grown hgr (by intro e; injection e with e; omega); replace HB := HB.grown hgr (by have := HB.size; omega) (by intro k e; injection e with e; omega); replace hg2 := hgn; replace hcg1 := hg1.cell; replace hfg1 := hg1.frozen; replace hcg2 := hg2.cell; replace hfg2 := hg2.frozen; clear hgn hgr))
        refine ret_row rfl hg2 rfl Tryd.underlying35 rfl rec_size rfl ?_
        exact ⟨none, 0, rfl, RU.nil, HB⟩
      · have t2 : decide (r.V < to) = false := by simp; omega
        have ct := fun (w : World) => turned_calls to hto r A c hf (Ver.of hv3.1 hv3.2) w
        cases hF : turnF r to
        · have e1 : downE r to = 40 := by unfold downE; rw [if_neg (by rw [hc]; simp), hk, if_neg (by decide), if_neg hlt, hF]; rfl
          have e2 : downR r to = Rec.zero := by unfold downR; rw [e1, if_neg (by decide)]
          rw [e1, e2]
          rw [hF] at ct
          generalize turnR r to = u at ct
          have Ct := Lib.hid ct
          clear hc e1 e2 hlt hv3 hk hto ct hF
          go_enter Tryd.func50, Tryd.ntmps50
          go_wp2_with (first
            | ((with_reducible refine gate_dst (N := 2) rfl ?_); refine ev_box rfl rfl (r.cells A c) rfl ?_; intro g1 W1 hg1 hsz hbn; have hgr := grown_of_below hbn; have zg1 : w.heap.size ≤ g1 := (by have := HB.size; omega); replace HB := HB.grown hgr (by have := HB.size; omega) (by simp); have hcg1 := hg1.cell; have hfg1 := hg1.frozen; clear hsz hbn hgr)
            | ((with_reducible refine gate_dst (N := 4) rfl ?_); refine ev_alloc rfl rfl _ rec_zero ?_; intro g2 W2 hg2 hsz hbn; have hgr := grown_of_below hbn; have ng1g2 : g1 ≠ g2 := (by have := hg1.lt; omega); replace hg2 : Blk W2 g2 _ (Rec.zero.cells none 0) := hg2; have zg2 : w.heap.size ≤ g2 := (by have := HB.size; omega); replace hg1 := hg1.grown hgr (by simp); replace HB := HB.grown hgr (by have := HB.size; omega) (by simp); have hcg2 := hg2.cell; have hfg2 := hg2.frozen; replace hcg1 := hg1.cell; replace hfg1 := hg1.frozen; clear hsz hbn hgr)
            | ((with_reducible refine gate_dst (N := 9) rfl ?_); refine wpList_load_row rfl _ _ rfl g1 rfl _ _ (0, 0) _ hg1 Tryd.underlying35 rfl rec_size ?_)
            | (go_at_call 75; (with_reducible refine (check_calls r A c hf _ (HT.out.next HB) (hd.next HB)).mono ?_); rintro e W3 ⟨rfl, hb⟩; have hgr := grown_of_below hb; replace hg1 := hg1.grown hgr (by simp); replace hg2 := hg2.grown hgr (by simp); replace HB := HB.grown hgr (by have := HB.size; omega) (by simp); replace hcg1 := hg1.cell; replace hfg1 := hg1.frozen; replace hcg2 := hg2.cell; replace hfg2 := hg2.frozen; clear hb hgr)
            | (go_at_call 86; (with_reducible refine (known_calls _ _).mono ?_); rintro e w1 ⟨rfl, rfl⟩; rw [hk'])
            | ((with_reducible refine gate_dst (N := 25) rfl ?_); refine wpList_load_row rfl _ _ rfl g1 rfl _ _ (0, 0) _ hg1 Tryd.underlying35 rfl rec_size ?_)
            | (go_at_call 88; (with_reducible refine (Ct.out _ (Ht.out.next HB) (hd.next HB)).mono ?_); rintro e W4 ⟨A5, c5, rfl, hd5, hb⟩; have hgr := grown_of_below hb; replace hg1 := hg1.grown hgr (by simp); replace hg2 := hg2.grown hgr (by simp); replace HB := HB.grown hgr (by have := HB.size; omega) (by simp); replace hcg1 := hg1.cell; replace hfg1 := hg1.frozen; replace hcg2 := hg2.cell; replace hfg2 := hg2.frozen; clear hb hgr)
            | ((with_reducible refine gate_dst (N := 7) rfl ?_); refine ev_alloc rfl rfl _ rec_zero ?_; intro g3 W5 hg3 hsz hbn; have hgr := grown_of_below hbn; have ng1g3 : g1 ≠ g3 := (by have := hg1.lt; omega); have ng2g3 : g2 ≠ g3 := (by have := hg2.lt; omega); replace hg3 : Blk W5 g3 _ (Rec.zero.cells none 0) := hg3; have zg3 : w.heap.size ≤ g3 := (by have := HB.size; omega); replace hd5 := hd5.kept hgr (by simp); replace hg1 := hg1.grown hgr (by simp); replace hg2 := hg2.grown hgr (by simp); replace HB := HB.grown hgr (by have := HB.size; omega) (by simp); have hcg3 := hg3.cell; have hfg3 := hg3.frozen; replace hcg1 := hg1.cell; replace hfg1 := hg1.frozen; replace hcg2 := hg2.cell; replace hfg2 := hg2.frozen; clear hsz hbn hgr)
            | ((with_reducible refine gate_store (p := 7) rfl ?_); refine ev_store_row (cs := u.cells A5 c5) rfl rfl rfl hg3 rfl rfl rec_size rfl (cells_one _ _ _) ?_; intro W6 hgn hgr; replace hd5 := hd5.kept hgr (RU.ne_blk hd5 hg3 (by decide)); replace hg1 := hg1.grown hgr (by intro e; injection e with e; omega); replace hg2 := hg2.grown hgr (by intro e; injection e with e; omega); replace HB := HB.grown hgr (by have := HB.size; omega) (by intro k e; injection e with e; omega); replace hg3 := hgn; replace hcg1 := hg1.cell; replace hfg1 := hg1.frozen; replace hcg2 := hg2.cell; replace hfg2 := hg2.frozen; replace hcg3 := hg3.cell; replace hfg3 := hg3.frozen; clear hgn hgr)
            | ((with_reducible refine gate_store (p := 4) rfl ?_); refine ev_store_row (cs := Rec.zero.cells none 0) rfl rfl rfl hg2 rfl rfl rec_size rfl (cells_one _ _ _) ?_; intro W7 hgn hgr; replace hd5 := hd5.kept hgr (RU.ne_blk hd5 hg2 (by decide)); replace hg1 := hg1.grown hgr (by intro e; injection e with e; omega); replace hg3 := hg3.grown hgr (by intro e; injection e with e; omega); replace HB := HB.grown hgr (by have := HB.size; omega) (by intro k e; injection e with e; omega); replace hg2 := hgn; replace hcg1 := hg1.cell; replace hfg1 := hg1.frozen; replace hcg2 := hg2.cell; replace hfg2 := hg2.frozen; replace hcg3 := hg3.cell; replace hfg3 := hg3.frozen; clear hgn hgr))
          refine ret_row rfl hg2 rfl Tryd.underlying35 rfl rec_size rfl ?_
          exact ⟨none, 0, rfl, RU.nil, HB⟩
        · have e1 : downE r to = 0 := by unfold downE; rw [if_neg (by rw [hc]; simp), hk, if_neg (by decide), if_neg hlt, hF]; rfl
          have e2 : downR r to = turnR r to := by unfold downR; rw [e1, if_pos rfl]
          rw [e1, e2]
          rw [hF] at ct
          generalize turnR r to = u at ct
          have Ct := Lib.hid ct
          clear hc e1 e2 hlt hv3 hk hto ct hF
          go_enter Tryd.func50, Tryd.ntmps50
          go_wp2_with (first
            | ((with_reducible refine gate_dst (N := 2) rfl ?_); refine ev_box rfl rfl (r.cells A c) rfl ?_; intro g1 W1 hg1 hsz hbn; have hgr := grown_of_below hbn; have zg1 : w.heap.size ≤ g1 := (by have := HB.size; omega); replace HB := HB.grown hgr (by have := HB.size; omega) (by simp); have hcg1 := hg1.cell; have hfg1 := hg1.frozen; clear hsz hbn hgr)
            | ((with_reducible refine gate_dst (N := 4) rfl ?_); refine ev_alloc rfl rfl _ rec_zero ?_; intro g2 W2 hg2 hsz hbn; have hgr := grown_of_below hbn; have ng1g2 : g1 ≠ g2 := (by have := hg1.lt; omega); replace hg2 : Blk W2 g2 _ (Rec.zero.cells none 0) := hg2; have zg2 : w.heap.size ≤ g2 := (by have := HB.size; omega); replace hg1 := hg1.grown hgr (by simp); replace HB := HB.grown hgr (by have := HB.size; omega) (by simp); have hcg2 := hg2.cell; have hfg2 := hg2.frozen; replace hcg1 := hg1.cell; replace hfg1 := hg1.frozen; clear hsz hbn hgr)
            | ((with_reducible refine gate_dst (N := 9) rfl ?_); refine wpList_load_row rfl _ _ rfl g1 rfl _ _ (0, 0) _ hg1 Tryd.underlying35 rfl rec_size ?_)
            | (go_at_call 75; (with_reducible refine (check_calls r A c hf _ (HT.out.next HB) (hd.next HB)).mono ?_); rintro e W3 ⟨rfl, hb⟩; have hgr := grown_of_below hb; replace hg1 := hg1.grown hgr (by simp); replace hg2 := hg2.grown hgr (by simp); replace HB := HB.grown hgr (by have := HB.size; omega) (by simp); replace hcg1 := hg1.cell; replace hfg1 := hg1.frozen; replace hcg2 := hg2.cell; replace hfg2 := hg2.frozen; clear hb hgr)
            | (go_at_call 86; (with_reducible refine (known_calls _ _).mono ?_); rintro e w1 ⟨rfl, rfl⟩; rw [hk'])
            | ((with_reducible refine gate_dst (N := 25) rfl ?_); refine wpList_load_row rfl _ _ rfl g1 rfl _ _ (0, 0) _ hg1 Tryd.underlying35 rfl rec_size ?_)
            | (go_at_call 88; (with_reducible refine (Ct.out _ (Ht.out.next HB) (hd.next HB)).mono ?_); rintro e W4 ⟨A5, c5, rfl, hd5, hb⟩; have hgr := grown_of_below hb; replace hg1 := hg1.grown hgr (by simp); replace hg2 := hg2.grown hgr (by simp); replace HB := HB.grown hgr (by have := HB.size; omega) (by simp); replace hcg1 := hg1.cell; replace hfg1 := hg1.frozen; replace hcg2 := hg2.cell; replace hfg2 := hg2.frozen; clear hb hgr)
            | ((with_reducible refine gate_dst (N := 7) rfl ?_); refine ev_alloc rfl rfl _ rec_zero ?_; intro g3 W5 hg3 hsz hbn; have hgr := grown_of_below hbn; have ng1g3 : g1 ≠ g3 := (by have := hg1.lt; omega); have ng2g3 : g2 ≠ g3 := (by have := hg2.lt; omega); replace hg3 : Blk W5 g3 _ (Rec.zero.cells none 0) := hg3; have zg3 : w.heap.size ≤ g3 := (by have := HB.size; omega); replace hd5 := hd5.kept hgr (by simp); replace hg1 := hg1.grown hgr (by simp); replace hg2 := hg2.grown hgr (by simp); replace HB := HB.grown hgr (by have := HB.size; omega) (by simp); have hcg3 := hg3.cell; have hfg3 := hg3.frozen; replace hcg1 := hg1.cell; replace hfg1 := hg1.frozen; replace hcg2 := hg2.cell; replace hfg2 := hg2.frozen; clear hsz hbn hgr)
            | ((with_reducible refine gate_store (p := 7) rfl ?_); refine ev_store_row (cs := u.cells A5 c5) rfl rfl rfl hg3 rfl rfl rec_size rfl (cells_one _ _ _) ?_; intro W6 hgn hgr; replace hd5 := hd5.kept hgr (RU.ne_blk hd5 hg3 (by decide)); replace hg1 := hg1.grown hgr (by intro e; injection e with e; omega); replace hg2 := hg2.grown hgr (by intro e; injection e with e; omega); replace HB := HB.grown hgr (by have := HB.size; omega) (by intro k e; injection e with e; omega); replace hg3 := hgn; replace hcg1 := hg1.cell; replace hfg1 := hg1.frozen; replace hcg2 := hg2.cell; replace hfg2 := hg2.frozen; replace hcg3 := hg3.cell; replace hfg3 := hg3.frozen; clear hgn hgr)
            | ((with_reducible refine gate_dst (N := 33) rfl ?_); refine wpList_load_row rfl _ _ rfl g3 rfl _ _ (0, 0) _ hg3 Tryd.underlying35 rfl rec_size ?_)
            | ((with_reducible refine gate_store (p := 4) rfl ?_); refine ev_store_row (cs := u.cells A5 c5) rfl rfl rfl hg2 rfl rfl rec_size rfl (cells_one _ _ _) ?_; intro W7 hgn hgr; replace hd5 := hd5.kept hgr (RU.ne_blk hd5 hg2 (by decide)); replace hg1 := hg1.grown hgr (by intro e; injection e with e; omega); replace hg3 := hg3.grown hgr (by intro e; injection e with e; omega); replace HB := HB.grown hgr (by have := HB.size; omega) (by intro k e; injection e with e; omega); replace hg2 := hgn; replace hcg1 := hg1.cell; replace hfg1 := hg1.frozen; replace hcg2 := hg2.cell; replace hfg2 := hg2.frozen; replace hcg3 := hg3.cell; replace hfg3 := hg3.frozen; clear hgn hgr))
          refine ret_row rfl hg2 rfl Tryd.underlying35 rfl rec_size rfl ?_
          exact ⟨A5, c5, rfl, hd5, HB⟩
  · have t1 := int_bne_true hc
    have e1 : downE r to = r.chk := by unfold downE; rw [if_pos hc]
    have e2 : downR r to = Rec.zero := by unfold downR; rw [e1, if_neg hc]
    rw [e1, e2]
    clear hc e1 e2
    go_enter Tryd.func50, Tryd.ntmps50
    go_wp2_with (first
      | ((with_reducible refine gate_dst (N := 2) rfl ?_); refine ev_box rfl rfl (r.cells A c) rfl ?_; intro g1 W1 hg1 hsz hbn; have hgr := grown_of_below hbn; have zg1 : w.heap.size ≤ g1 := (by have := HB.size; omega); replace HB := HB.grown hgr (by have := HB.size; omega) (by simp); have hcg1 := hg1.cell; have hfg1 := hg1.frozen; clear hsz hbn hgr)
      | ((with_reducible refine gate_dst (N := 4) rfl ?_); refine ev_alloc rfl rfl _ rec_zero ?_; intro g2 W2 hg2 hsz hbn; have hgr := grown_of_below hbn; have ng1g2 : g1 ≠ g2 := (by have := hg1.lt; omega); replace hg2 : Blk W2 g2 _ (Rec.zero.cells none 0) := hg2; have zg2 : w.heap.size ≤ g2 := (by have := HB.size; omega); replace hg1 := hg1.grown hgr (by simp); replace HB := HB.grown hgr (by have := HB.size; omega) (by simp); have hcg2 := hg2.cell; have hfg2 := hg2.frozen; replace hcg1 := hg1.cell; replace hfg1 := hg1.frozen; clear hsz hbn hgr)
      | ((with_reducible refine gate_dst (N := 9) rfl ?_); refine wpList_load_row rfl _ _ rfl g1 rfl _ _ (0, 0) _ hg1 Tryd.underlying35 rfl rec_size ?_)
      | (go_at_call 75; (with_reducible refine (check_calls r A c hf _ (HT.out.next HB) (hd.next HB)).mono ?_); rintro e W3 ⟨rfl, hb⟩; have hgr := grown_of_below hb; replace hg1 := hg1.grown hgr (by simp); replace hg2 := hg2.grown hgr (by simp); replace HB := HB.grown hgr (by have := HB.size; omega) (by simp); replace hcg1 := hg1.cell; replace hfg1 := hg1.frozen; replace hcg2 := hg2.cell; replace hfg2 := hg2.frozen; clear hb hgr)
      | ((with_reducible refine gate_store (p := 4) rfl ?_); refine ev_store_row (cs := Rec.zero.cells none 0) rfl rfl rfl hg2 rfl rfl rec_size rfl (cells_one _ _ _) ?_; intro W4 hgn hgr; replace hg1 := hg1.grown hgr (by intro e; injection e with e; omega); replace HB := HB.grown hgr (by have := HB.size; omega) (by intro k e; injection e with e; omega); replace hg2 := hgn; replace hcg1 := hg1.cell; replace hfg1 := hg1.frozen; replace hcg2 := hg2.cell; replace hfg2 := hg2.frozen; clear hgn hgr))
    refine ret_row rfl hg2 rfl Tryd.underlying35 rfl rec_size rfl ?_
    exact ⟨none, 0, rfl, RU.nil, HB⟩

def leastE (r : Rec) : Int := r.chk
def leastN (r : Rec) : Int := if r.chk = 0 then leastR r else 0
theorem turn_lower {r : Rec} (h : r.chk = 0) {v : Int} (h1 : 1 ≤ v) (h2 : v < r.V) : turnF r v = decide (leastR r ≤ v) := (least_ok h).2.2 v h1 (by omega)

set_option maxHeartbeats 2000000 in
set_option maxRecDepth 100000 in
theorem least_calls (r : Rec) (A : Option Addr) (c : Nat) (hf : r.Fits) (w : World) (hT : Tabs w) (ht : Tab w 2 waysL) (hd : RB w A r.Data) :
    Calls Tryd.prog 59 #[.agg (r.cells A c)] w fun e w' => e = .returned (.tuple #[.int .i64 (leastN r), .int .i64 r.chk]) ∧ Below w.heap.size w w' := by
  have HB := Below.refl w.heap.size w
  have HT := Lib.hid hT
  have Ht := Lib.hid ht
  clear hT ht
  by_cases hc : r.chk = 0
  · have t1 := int_bne_false hc
    have e1 : leastN r = leastR r := if_pos hc
    obtain ⟨l1, l2, l3⟩ := least_ok hc
    have hv3 : 1 ≤ r.V ∧ r.V ≤ 3 := ((chk_ok r).1 hc).1
    rw [e1, hc]
    have cc := fun (w : World) => check_calls r A c hf w
    rw [hc] at cc
    have Cc := Lib.hid cc
    have Hl := Lib.hid (And.intro l1 l2)
    have H3 := Lib.hid l3
    have Hc := Lib.hid hc
    clear hc e1 l1 l2 l3 cc t1
    go_enter Tryd.func59, Tryd.ntmps59
    go_wp2_with (first
      | ((with_reducible refine gate_dst (N := 1) rfl ?_); refine ev_box rfl rfl (r.cells A c) rfl ?_; intro g1 W1 hg1 hsz hbn; have hgr := grown_of_below hbn; have zg1 : w.heap.size ≤ g1 := (by have := HB.size; omega); replace HB := HB.grown hgr (by have := HB.size; omega) (by simp); have hcg1 := hg1.cell; have hfg1 := hg1.frozen; clear hsz hbn hgr)
      | ((with_reducible refine gate_dst (N := 8) rfl ?_); refine wpList_load_row rfl _ _ rfl g1 rfl _ _ (0, 0) _ hg1 Tryd.underlying35 rfl rec_size ?_)
      | (go_at_call 75; (with_reducible refine (Cc.out _ (HT.out.next HB) (hd.next HB)).mono ?_); rintro e W2 ⟨rfl, hb⟩; have hgr := grown_of_below hb; replace hg1 := hg1.grown hgr (by simp); replace HB := HB.grown hgr (by have := HB.size; omega) (by simp); replace hcg1 := hg1.cell; replace hfg1 := hg1.frozen; clear hb hgr))
    go_loopg [5] 3 (fun n v5 wr => ∃ v : Int, (n : Int) + v = 4 ∧ v5 = .int .i64 v ∧ Aside (1 ≤ v ∧ v ≤ r.V ∧ v ≤ leastR r ∧ Blk wr g1 _ (r.cells A c) ∧ Below w.heap.size w wr))
    case atStart => exact ⟨1, by omega, rfl, ⟨by omega, by omega, Hl.out.1, hg1, HB⟩⟩
    case round =>
      clear hg1 hcg1 hfg1 HB
      obtain ⟨v, hn, rfl, HA⟩ := hrel
      obtain ⟨h1, hvV, hvl, hg1, HB⟩ := HA.out
      clear HA
      have hcg1 := hg1.cell
      have hfg1 := hg1.frozen
      by_cases hlt : v < r.V
      · have t2 : decide (v < r.V) = true := by simp [hlt]
        have hF := H3.out v h1 (by omega)
        have hto : Ver v := Ver.of h1 (by omega)
        have ct := fun (w : World) => turned_calls v hto r A c hf (Ver.of hv3.1 hv3.2) w
        generalize turnR r v = u at ct
        by_cases hle : leastR r ≤ v
        · have hve : leastR r = v := by omega
          rw [hF, decide_eq_true hle] at ct
          have Ct := Lib.hid ct
          have Hve := Lib.hid hve
          clear ct hF hle hve hlt hvV hvl hv3 hto
          go_wp2_with (first
            | ((with_reducible refine gate_dst (N := 20) rfl ?_); refine wpList_load_row rfl _ _ rfl g1 rfl _ _ (0, 0) _ hg1 Tryd.underlying35 rfl rec_size ?_)
            | (go_at_call 88; (with_reducible refine (Ct.out _ (Ht.out.next HB) (hd.next HB)).mono ?_); rintro e W1 ⟨A5, c5, rfl, hd5, hb⟩; have hgr := grown_of_below hb; replace hg1 := hg1.grown hgr (by simp); replace HB := HB.grown hgr (by have := HB.size; omega) (by simp); replace hcg1 := hg1.cell; replace hfg1 := hg1.frozen; clear hb hgr)
            | ((with_reducible refine gate_dst (N := 6) rfl ?_); refine ev_alloc rfl rfl _ rec_zero ?_; intro g3 W2 hg3 hsz hbn; have hgr := grown_of_below hbn; have ng1g3 : g1 ≠ g3 := (by have := hg1.lt; omega); replace hg3 : Blk W2 g3 _ (Rec.zero.cells none 0) := hg3; have zg3 : w.heap.size ≤ g3 := (by have := HB.size; omega); replace hd5 := hd5.kept hgr (by simp); replace hg1 := hg1.grown hgr (by simp); replace HB := HB.grown hgr (by have := HB.size; omega) (by simp); have hcg3 := hg3.cell; have hfg3 := hg3.frozen; replace hcg1 := hg1.cell; replace hfg1 := hg1.frozen; clear hsz hbn hgr)
            | ((with_reducible refine gate_store (p := 6) rfl ?_); refine ev_store_row (cs := u.cells A5 c5) rfl rfl rfl hg3 rfl rfl rec_size rfl (cells_one _ _ _) ?_; intro W3 hgn hgr; replace hd5 := hd5.kept hgr (RU.ne_blk hd5 hg3 (by decide)); replace hg1 := hg1.grown hgr (by intro e; injection e with e; omega); replace HB := HB.grown hgr (by have := HB.size; omega) (by intro k e; injection e with e; omega); replace hg3 := hgn; replace hcg1 := hg1.cell; replace hfg1 := hg1.frozen; replace hcg3 := hg3.cell; replace hfg3 := hg3.frozen; clear hgn hgr))
          go_ret2
          exact ⟨by rw [Hve.out]; rfl, HB⟩
        · rw [hF, decide_eq_false hle] at ct
          have Ct := Lib.hid ct
          have Hx := Lib.hid (show v + 1 ≤ r.V ∧ v + 1 ≤ leastR r by omega)
          clear ct hF hle hlt hvV hvl hto
          go_wp2_with (first
            | ((with_reducible refine gate_dst (N := 20) rfl ?_); refine wpList_load_row rfl _ _ rfl g1 rfl _ _ (0, 0) _ hg1 Tryd.underlying35 rfl rec_size ?_)
            | (go_at_call 88; (with_reducible refine (Ct.out _ (Ht.out.next HB) (hd.next HB)).mono ?_); rintro e W1 ⟨A5, c5, rfl, hd5, hb⟩; have hgr := grown_of_below hb; replace hg1 := hg1.grown hgr (by simp); replace HB := HB.grown hgr (by have := HB.size; omega) (by simp); replace hcg1 := hg1.cell; replace hfg1 := hg1.frozen; clear hb hgr)
            | ((with_reducible refine gate_dst (N := 6) rfl ?_); refine ev_alloc rfl rfl _ rec_zero ?_; intro g3 W2 hg3 hsz hbn; have hgr := grown_of_below hbn; have ng1g3 : g1 ≠ g3 := (by have := hg1.lt; omega); replace hg3 : Blk W2 g3 _ (Rec.zero.cells none 0) := hg3; have zg3 : w.heap.size ≤ g3 := (by have := HB.size; omega); replace hd5 := hd5.kept hgr (by simp); replace hg1 := hg1.grown hgr (by simp); replace HB := HB.grown hgr (by have := HB.size; omega) (by simp); have hcg3 := hg3.cell; have hfg3 := hg3.frozen; replace hcg1 := hg1.cell; replace hfg1 := hg1.frozen; clear hsz hbn hgr)
            | ((with_reducible refine gate_store (p := 6) rfl ?_); refine ev_store_row (cs := u.cells A5 c5) rfl rfl rfl hg3 rfl rfl rec_size rfl (cells_one _ _ _) ?_; intro W3 hgn hgr; replace hd5 := hd5.kept hgr (RU.ne_blk hd5 hg3 (by decide)); replace hg1 := hg1.grown hgr (by intro e; injection e with e; omega); replace HB := HB.grown hgr (by have := HB.size; omega) (by intro k e; injection e with e; omega); replace hg3 := hgn; replace hcg1 := hg1.cell; replace hfg1 := hg1.frozen; replace hcg3 := hg3.cell; replace hfg3 := hg3.frozen; clear hgn hgr))
          have hx := Hx.out
          go_roundg (gk - 1)
          case measure => omega
          case rel => exact ⟨v + 1, by omega, by go_num, ⟨by omega, by omega, by omega, hg1, HB⟩⟩
      · have t2 : decide (v < r.V) = false := by simp; omega
        have hve : leastR r = r.V := by have := Hl.out.2; omega
        have Hve := Lib.hid hve
        clear hve hlt hvV hvl
        go_wp2
        go_ret2
        exact ⟨by rw [Hve.out]; rfl, HB⟩
  · have t1 := int_bne_true hc
    have e1 : leastN r = 0 := if_neg hc
    rw [e1]
    clear hc e1
    go_enter Tryd.func59, Tryd.ntmps59
    go_wp2_with (first
      | ((with_reducible refine gate_dst (N := 1) rfl ?_); refine ev_box rfl rfl (r.cells A c) rfl ?_; intro g1 W1 hg1 hsz hbn; have hgr := grown_of_below hbn; have zg1 : w.heap.size ≤ g1 := (by have := HB.size; omega); replace HB := HB.grown hgr (by have := HB.size; omega) (by simp); have hcg1 := hg1.cell; have hfg1 := hg1.frozen; clear hsz hbn hgr)
      | ((with_reducible refine gate_dst (N := 8) rfl ?_); refine wpList_load_row rfl _ _ rfl g1 rfl _ _ (0, 0) _ hg1 Tryd.underlying35 rfl rec_size ?_)
      | (go_at_call 75; (with_reducible refine (check_calls r A c hf _ (HT.out.next HB) (hd.next HB)).mono ?_); rintro e W2 ⟨rfl, hb⟩; have hgr := grown_of_below hb; replace hg1 := hg1.grown hgr (by simp); replace HB := HB.grown hgr (by have := HB.size; omega) (by simp); replace hcg1 := hg1.cell; replace hfg1 := hg1.frozen; clear hb hgr))
    go_ret2
    exact ⟨rfl, HB⟩

/-- What 'started' lifts. -/
def firstR : Rec := { Rec.zero with V := 1, Kind := 7, Saga := 5 }
theorem firstR_chk : firstR.chk = 0 := by decide +kernel
theorem firstR_up : upE firstR 3 = 0 ∧ upR firstR 3 = { firstR with V := 3 } := by
  have h : upE firstR 3 = 0 := by unfold upE; rw [firstR_chk]; decide +kernel
  refine ⟨h, ?_⟩
  unfold upR
  rw [if_pos h, (turn_13 (r := firstR) rfl).1]
  rfl
theorem up_first (w : World) (hT : Tabs w) (ht : Tab w 2 waysL) :
    Calls Tryd.prog 34 #[.agg #[.int .i64 1, .int .i64 7, .int .i64 5, .int .i64 0, .int .i64 0, .int .i64 0, .int .i64 0, .int .i64 0, .int .i64 0, .int .i64 0, .string ⟨#[]⟩, .slice none 0 0], .int .i64 3] w fun e w' => ∃ A' c', e = .returned (.tuple #[.agg (({ firstR with V := 3 } : Rec).cells A' c'), .int .i64 0]) ∧ RU w' A' ({ firstR with V := 3 } : Rec).Data ∧ Below w.heap.size w w' := by
  have := up_calls firstR none 0 3 ⟨by decide, by decide⟩ w hT ht RB.nil
  rw [firstR_up.1, firstR_up.2] at this
  exact this
theorem same_later (a : Rec) (A B : Option Addr) (c d : Nat) (w : World) (ha : RB w A a.Data) (hb : RB w B a.Data) (hl : a.Data.length ≤ 140737488351232) :
    Calls Tryd.prog 35 #[.agg (a.cells A c), .agg (a.cells B d)] w fun e w' => e = .returned (.bool true) ∧ Below w.heap.size w w' := by
  have := refSame_calls a a A B c d w ha hb hl hl
  rwa [Rec.same_self] at this
theorem same_first (A : Option Addr) (c : Nat) (w : World) (ha : RB w A []) :
    Calls Tryd.prog 35 #[.agg (({ firstR with V := 3 } : Rec).cells A c), .agg #[.int .i64 3, .int .i64 7, .int .i64 5, .int .i64 0, .int .i64 0, .int .i64 0, .int .i64 0, .int .i64 0, .int .i64 0, .int .i64 0, .string ⟨#[]⟩, .slice none 0 0]] w fun e w' => e = .returned (.bool true) ∧ Below w.heap.size w w' :=
  same_later { firstR with V := 3 } A none c 0 w ha RB.nil (by decide)
set_option maxHeartbeats 2000000 in
set_option maxRecDepth 100000 in
theorem started_calls (w : World) (hT : Tabs w) (ht : Tab w 2 waysL) :
    Calls Tryd.prog 48 #[] w fun e w' => e = .returned (.bool true) ∧ Below w.heap.size w w' := by
  have HB := Below.refl w.heap.size w
  have HT := Lib.hid hT
  have Ht := Lib.hid ht
  clear hT ht
  go_enter Tryd.func48, Tryd.ntmps48
  go_wp2_with (first
    | (go_at_call 34; (with_reducible refine (up_first _ (HT.out.next HB) (Ht.out.next HB)).mono ?_); rintro e W1 ⟨A5, c5, rfl, hd5, hb⟩; have hgr := grown_of_below hb; replace HB := HB.grown hgr (by have := HB.size; omega) (by simp); clear hb hgr)
    | ((with_reducible refine gate_dst (N := 1) rfl ?_); refine ev_alloc rfl rfl _ rec_zero ?_; intro g1 W2 hg1 hsz hbn; have hgr := grown_of_below hbn; replace hg1 : Blk W2 g1 _ (Rec.zero.cells none 0) := hg1; have zg1 : w.heap.size ≤ g1 := (by have := HB.size; omega); replace hd5 := hd5.kept hgr (by simp); replace HB := HB.grown hgr (by have := HB.size; omega) (by simp); have hcg1 := hg1.cell; have hfg1 := hg1.frozen; clear hsz hbn hgr)
    | ((with_reducible refine gate_store (p := 1) rfl ?_); refine ev_store_row (cs := ({ firstR with V := 3 } : Rec).cells A5 c5) rfl rfl rfl hg1 rfl rfl rec_size rfl (cells_one _ _ _) ?_; intro W3 hgn hgr; replace hd5 := hd5.kept hgr (RU.ne_blk hd5 hg1 (by decide)); replace HB := HB.grown hgr (by have := HB.size; omega) (by intro k e; injection e with e; omega); replace hg1 := hgn; replace hcg1 := hg1.cell; replace hfg1 := hg1.frozen; clear hgn hgr)
    | (go_at_call 33; (with_reducible refine (num_calls _ _).mono ?_); rintro e w1 ⟨rfl, rfl⟩)
    | ((with_reducible refine gate_dst (N := 12) rfl ?_); (first | (refine wpList_ungate ?_ ?_; focus (first | rfl | (simp [Region.wanted, yielded]; done))) | (refine wpList_ungate (by first | rfl | simp [Region.wanted, yielded]) ?_)); refine wpList_load_row rfl _ _ rfl g1 rfl _ _ (0, 0) _ hg1 Tryd.underlying35 rfl rec_size ?_)
    | (go_at_call 35; (with_reducible refine (same_first _ _ _ hd5.rb).mono ?_); rintro e W4 ⟨rfl, hb⟩; have hgr := grown_of_below hb; replace hd5 := hd5.kept hgr (by simp); replace hg1 := hg1.grown hgr (by simp); replace HB := HB.grown hgr (by have := HB.size; omega) (by simp); replace hcg1 := hg1.cell; replace hfg1 := hg1.frozen; clear hb hgr))
  go_ret
  exact ⟨rfl, HB⟩
end Go.Proofs.YtjhiohjpkdjkoaaDoor
