/-
  The walk of the law LiftLoss.
-/
import Derived.Test.YtjhiohjpkdjkoaaDoorDH
set_option linter.unusedVariables false
set_option linter.unusedSimpArgs false
namespace Go.Proofs.YtjhiohjpkdjkoaaDoor
open Go.RowKit
attribute [local go_sem] Rec.size_ Rec.g0 Rec.g1 Rec.g2 Rec.g3 Rec.g4 Rec.g5 Rec.g6 Rec.g7 Rec.g8 Rec.g9 Rec.g10 Rec.g11 Rec.fold Rec.lit_fold Rec.same_self

theorem down_bad {r : Rec} {to : Int} (h : r.chk ≠ 0 ∨ to < 1 ∨ r.V < to) : downE r to ≠ 0 := by
  unfold downE
  by_cases hc : r.chk = 0
  · rw [if_neg (by simp [hc])]
    cases hk : known to
    · simp
    · have h1 : 1 ≤ to := by unfold known at hk; simp at hk; omega
      have hlt : r.V < to := by omega
      simp [hlt]
  · rw [if_pos hc]
    exact hc
set_option maxHeartbeats 4000000 in
set_option maxRecDepth 100000 in
theorem liftLoss_bad (r q : Rec) (A B : Option Addr) (c d : Nat) (to : Int) (hf : r.Fits) (hz : r.Name.size ≤ 1099511627776) (w : World) (hT : Tabs w) (ht : Tab w 2 waysL) (hR : RTabs w) (hd : RB w A r.Data)
    (b1 b2 b3 : Bool) (h1 : (r.chk != 0) = b1) (h2 : decide (to < 1) = b2) (h3 : decide (r.V < to) = b3) (hbad : (b1 || b2 || b3) = true) :
    Calls Tryd.prog 8 #[.agg (r.cells A c), .agg (q.cells B d), .int .i64 to] w fun e w' => e = .returned (.bool true) ∧ Below w.heap.size w w' := by
  have HB := Below.refl w.heap.size w
  have HT := Lib.hid hT
  have Ht := Lib.hid ht
  have HR := Lib.hid hR
  clear hT ht hR
  have hne : downE r to ≠ 0 := down_bad (by
    rcases b1 with _ | _
    · rcases b2 with _ | _
      · rcases b3 with _ | _
        · cases hbad
        · exact .inr (.inr (by simpa using h3))
      · exact .inr (.inl (by simpa using h2))
    · exact .inl (by simpa using h1))
  have t0 := int_bne_true hne
  have cu := fun w => down_calls r A c to hf w
  have cc := fun w => refCheck_calls r A c hz w
  generalize downR r to = u at cu
  generalize downE r to = ue at cu t0
  generalize r.chk = k at cc h1
  have Cu := Lib.hid cu
  have Cc := Lib.hid cc
  have m2 : True := trivial
  clear cu cc hne
  cases b1 <;> cases b2 <;> cases b3
  all_goals first
    | (cases hbad; done)
    | skip
  all_goals
    clear hbad
    go_enter Tryd.func8, Tryd.ntmps8
    go_wp2_with (first
      | ((with_reducible refine gate_dst (N := 3) rfl ?_); refine ev_box rfl rfl (r.cells A c) rfl ?_; intro g1 W1 hg1 hsz hbn; have hgr := grown_of_below hbn; have zg1 : w.heap.size ≤ g1 := (by have := HB.size; omega); replace HB := HB.grown hgr (by have := HB.size; omega) (by simp); have hcg1 := hg1.cell; have hfg1 := hg1.frozen; clear hsz hbn hgr)
      | ((with_reducible refine gate_dst (N := 4) rfl ?_); refine ev_box rfl rfl (q.cells B d) rfl ?_; intro g2 W2 hg2 hsz hbn; have hgr := grown_of_below hbn; have ng1g2 : g1 ≠ g2 := (by have := hg1.lt; omega); have zg2 : w.heap.size ≤ g2 := (by have := HB.size; omega); replace hg1 := hg1.grown hgr (by simp); replace HB := HB.grown hgr (by have := HB.size; omega) (by simp); have hcg2 := hg2.cell; have hfg2 := hg2.frozen; replace hcg1 := hg1.cell; replace hfg1 := hg1.frozen; clear hsz hbn hgr)
      | ((with_reducible refine gate_dst (N := 15) rfl ?_); refine wpList_load_row rfl _ _ rfl g1 rfl _ _ (0, 0) _ hg1 Tryd.underlying35 rfl rec_size ?_)
      | (go_at_call 50; (with_reducible refine (Cu.out _ (HT.out.next HB) (Ht.out.next HB) (hd.next HB)).mono ?_); rintro e W3 ⟨A5, c5, rfl, hd5, hb⟩; have hgr := grown_of_below hb; replace hg1 := hg1.grown hgr (by simp); replace hg2 := hg2.grown hgr (by simp); replace HB := HB.grown hgr (by have := HB.size; omega) (by simp); replace hcg1 := hg1.cell; replace hfg1 := hg1.frozen; replace hcg2 := hg2.cell; replace hfg2 := hg2.frozen; clear hb hgr)
      | ((with_reducible refine gate_dst (N := 7) rfl ?_); refine ev_alloc rfl rfl _ rec_zero ?_; intro g3 W4 hg3 hsz hbn; have hgr := grown_of_below hbn; have ng1g3 : g1 ≠ g3 := (by have := hg1.lt; omega); have ng2g3 : g2 ≠ g3 := (by have := hg2.lt; omega); replace hg3 : Blk W4 g3 _ (Rec.zero.cells none 0) := hg3; have zg3 : w.heap.size ≤ g3 := (by have := HB.size; omega); replace hd5 := hd5.kept hgr (by simp); replace hg1 := hg1.grown hgr (by simp); replace hg2 := hg2.grown hgr (by simp); replace HB := HB.grown hgr (by have := HB.size; omega) (by simp); have hcg3 := hg3.cell; have hfg3 := hg3.frozen; replace hcg1 := hg1.cell; replace hfg1 := hg1.frozen; replace hcg2 := hg2.cell; replace hfg2 := hg2.frozen; clear hsz hbn hgr)
      | ((with_reducible refine gate_store (p := 7) rfl ?_); refine ev_store_row (cs := u.cells A5 c5) rfl rfl rfl hg3 rfl rfl rec_size rfl (cells_one _ _ _) ?_; intro W5 hgn hgr; replace hd5 := hd5.kept hgr (RU.ne_blk hd5 hg3 (by decide)); replace hg1 := hg1.grown hgr (by intro e; injection e with e; omega); replace hg2 := hg2.grown hgr (by intro e; injection e with e; omega); replace HB := HB.grown hgr (by have := HB.size; omega) (by intro k e; injection e with e; omega); replace hg3 := hgn; replace hcg1 := hg1.cell; replace hfg1 := hg1.frozen; replace hcg2 := hg2.cell; replace hfg2 := hg2.frozen; replace hcg3 := hg3.cell; replace hfg3 := hg3.frozen; clear hgn hgr)
      | (go_at_call 48; (with_reducible refine (started_calls _ (HT.out.next HB) (Ht.out.next HB)).mono ?_); rintro e W6 ⟨rfl, hb⟩; have hgr := grown_of_below hb; replace hd5 := hd5.kept hgr (by simp); replace hg1 := hg1.grown hgr (by simp); replace hg2 := hg2.grown hgr (by simp); replace hg3 := hg3.grown hgr (by simp); replace HB := HB.grown hgr (by have := HB.size; omega) (by simp); replace hcg1 := hg1.cell; replace hfg1 := hg1.frozen; replace hcg2 := hg2.cell; replace hfg2 := hg2.frozen; replace hcg3 := hg3.cell; replace hfg3 := hg3.frozen; clear hb hgr)
      | ((with_reducible refine gate_dst (N := 24) rfl ?_); refine wpList_ungate ?_ ?_; focus (first | rfl | (simp [Region.wanted, yielded]; done)); refine wpList_load_row rfl _ _ rfl g1 rfl _ _ (0, 0) _ hg1 Tryd.underlying35 rfl rec_size ?_)
      | (go_at_call 49; clear m2; (with_reducible refine (Cc.out _ (HR.out.next HB) (hd.next HB)).mono ?_); rintro e W7 ⟨rfl, hb⟩; have hgr := grown_of_below hb; replace hd5 := hd5.kept hgr (by simp); replace hg1 := hg1.grown hgr (by simp); replace hg2 := hg2.grown hgr (by simp); replace hg3 := hg3.grown hgr (by simp); replace HB := HB.grown hgr (by have := HB.size; omega) (by simp); replace hcg1 := hg1.cell; replace hfg1 := hg1.frozen; replace hcg2 := hg2.cell; replace hfg2 := hg2.frozen; replace hcg3 := hg3.cell; replace hfg3 := hg3.frozen; clear hb hgr)
      | (go_at_call 33; (with_reducible refine (num_calls _ _).mono ?_); rintro e w1 ⟨rfl, rfl⟩))
    go_ret
    exact ⟨rfl, HB⟩

set_option maxHeartbeats 8000000 in
set_option maxRecDepth 100000 in
theorem liftLoss_down (r q : Rec) (A B : Option Addr) (c d : Nat) (to : Int) (hf : r.Fits) (hz : r.Name.size ≤ 1099511627776) (w : World) (hT : Tabs w) (ht : Tab w 2 waysL) (hR : RTabs w) (hd : RB w A r.Data)
    (hc : r.chk = 0) (h2 : 1 ≤ to) (h3 : to ≤ r.V) (hF : turnF r to = true) :
    Calls Tryd.prog 8 #[.agg (r.cells A c), .agg (q.cells B d), .int .i64 to] w fun e w' => e = .returned (.bool true) ∧ Below w.heap.size w w' := by
  have HB := Below.refl w.heap.size w
  have HT := Lib.hid hT
  have Ht := Lib.hid ht
  have HR := Lib.hid hR
  clear hT ht hR
  have hv3 := ((chk_ok r).1 hc).1
  obtain ⟨k1, k2, k3⟩ := down_ok hc h2 h3 hF
  have s1 : decide (to < 1) = false := by simp; omega
  have s2 : decide (r.V < to) = false := by simp; omega
  have cu := fun w => down_calls r A c to hf w
  have cc := fun w => ref_check_of r 0 hc A c hz w
  have ck := fun A c w => ref_check_of (turnR r to) 0 k1 A c (valid_name k1) w
  have cd := fun A c w => up_calls (turnR r to) A c r.V (hf.turn to) w
  obtain ⟨e1, e2⟩ := upE_of k1 (v := r.V) (by omega) (by omega)
  rw [downE_of hc h2 h3, downR_of hc h2 h3, hF, if_pos rfl, if_pos rfl] at cu
  rw [e1, e2, k3] at cd
  have hrl := hf.data
  have p1 := int_beq_true k2
  generalize turnR r to = u at cu ck cd p1
  have Cu := Lib.hid cu
  have Cc := Lib.hid cc
  have Ck := Lib.hid ck
  have Cd := Lib.hid cd
  have m2 : True := trivial
  clear cu cc ck cd k1 k2 k3 e1 e2 hc h2 h3 hv3 hF
  go_enter Tryd.func8, Tryd.ntmps8
  go_wp2_with (first
    | ((with_reducible refine gate_dst (N := 3) rfl ?_); refine ev_box rfl rfl (r.cells A c) rfl ?_; intro g1 W1 hg1 hsz hbn; have hgr := grown_of_below hbn; have zg1 : w.heap.size ≤ g1 := (by have := HB.size; omega); replace HB := HB.grown hgr (by have := HB.size; omega) (by simp); have hcg1 := hg1.cell; have hfg1 := hg1.frozen; clear hsz hbn hgr)
    | ((with_reducible refine gate_dst (N := 4) rfl ?_); refine ev_box rfl rfl (q.cells B d) rfl ?_; intro g2 W2 hg2 hsz hbn; have hgr := grown_of_below hbn; have ng1g2 : g1 ≠ g2 := (by have := hg1.lt; omega); have zg2 : w.heap.size ≤ g2 := (by have := HB.size; omega); replace hg1 := hg1.grown hgr (by simp); replace HB := HB.grown hgr (by have := HB.size; omega) (by simp); have hcg2 := hg2.cell; have hfg2 := hg2.frozen; replace hcg1 := hg1.cell; replace hfg1 := hg1.frozen; clear hsz hbn hgr)
    | ((with_reducible refine gate_dst (N := 15) rfl ?_); refine wpList_load_row rfl _ _ rfl g1 rfl _ _ (0, 0) _ hg1 Tryd.underlying35 rfl rec_size ?_)
    | (go_at_call 50; (with_reducible refine (Cu.out _ (HT.out.next HB) (Ht.out.next HB) (hd.next HB)).mono ?_); rintro e W3 ⟨A5, c5, rfl, hd5, hb⟩; have hgr := grown_of_below hb; replace hg1 := hg1.grown hgr (by simp); replace hg2 := hg2.grown hgr (by simp); replace HB := HB.grown hgr (by have := HB.size; omega) (by simp); replace hcg1 := hg1.cell; replace hfg1 := hg1.frozen; replace hcg2 := hg2.cell; replace hfg2 := hg2.frozen; clear hb hgr)
    | ((with_reducible refine gate_dst (N := 7) rfl ?_); refine ev_alloc rfl rfl _ rec_zero ?_; intro g3 W4 hg3 hsz hbn; have hgr := grown_of_below hbn; have ng1g3 : g1 ≠ g3 := (by have := hg1.lt; omega); have ng2g3 : g2 ≠ g3 := (by have := hg2.lt; omega); replace hg3 : Blk W4 g3 _ (Rec.zero.cells none 0) := hg3; have zg3 : w.heap.size ≤ g3 := (by have := HB.size; omega); replace hd5 := hd5.kept hgr (by simp); replace hg1 := hg1.grown hgr (by simp); replace hg2 := hg2.grown hgr (by simp); replace HB := HB.grown hgr (by have := HB.size; omega) (by simp); have hcg3 := hg3.cell; have hfg3 := hg3.frozen; replace hcg1 := hg1.cell; replace hfg1 := hg1.frozen; replace hcg2 := hg2.cell; replace hfg2 := hg2.frozen; clear hsz hbn hgr)
    | ((with_reducible refine gate_store (p := 7) rfl ?_); refine ev_store_row (cs := u.cells A5 c5) rfl rfl rfl hg3 rfl rfl rec_size rfl (cells_one _ _ _) ?_; intro W5 hgn hgr; replace hd5 := hd5.kept hgr (RU.ne_blk hd5 hg3 (by decide)); replace hg1 := hg1.grown hgr (by intro e; injection e with e; omega); replace hg2 := hg2.grown hgr (by intro e; injection e with e; omega); replace HB := HB.grown hgr (by have := HB.size; omega) (by intro k e; injection e with e; omega); replace hg3 := hgn; replace hcg1 := hg1.cell; replace hfg1 := hg1.frozen; replace hcg2 := hg2.cell; replace hfg2 := hg2.frozen; replace hcg3 := hg3.cell; replace hfg3 := hg3.frozen; clear hgn hgr)
    | (go_at_call 48; (with_reducible refine (started_calls _ (HT.out.next HB) (Ht.out.next HB)).mono ?_); rintro e W6 ⟨rfl, hb⟩; have hgr := grown_of_below hb; replace hd5 := hd5.kept hgr (by simp); replace hg1 := hg1.grown hgr (by simp); replace hg2 := hg2.grown hgr (by simp); replace hg3 := hg3.grown hgr (by simp); replace HB := HB.grown hgr (by have := HB.size; omega) (by simp); replace hcg1 := hg1.cell; replace hfg1 := hg1.frozen; replace hcg2 := hg2.cell; replace hfg2 := hg2.frozen; replace hcg3 := hg3.cell; replace hfg3 := hg3.frozen; clear hb hgr)
    | ((with_reducible refine gate_dst (N := 24) rfl ?_); refine wpList_ungate ?_ ?_; focus (first | rfl | (simp [Region.wanted, yielded]; done)); refine wpList_load_row rfl _ _ rfl g1 rfl _ _ (0, 0) _ hg1 Tryd.underlying35 rfl rec_size ?_)
    | (go_at_call 49; clear m2; (with_reducible refine (Cc.out _ (HR.out.next HB) (hd.next HB)).mono ?_); rintro e W7 ⟨rfl, hb⟩; have hgr := grown_of_below hb; replace hd5 := hd5.kept hgr (by simp); replace hg1 := hg1.grown hgr (by simp); replace hg2 := hg2.grown hgr (by simp); replace hg3 := hg3.grown hgr (by simp); replace HB := HB.grown hgr (by have := HB.size; omega) (by simp); replace hcg1 := hg1.cell; replace hfg1 := hg1.frozen; replace hcg2 := hg2.cell; replace hfg2 := hg2.frozen; replace hcg3 := hg3.cell; replace hfg3 := hg3.frozen; clear hb hgr)
    | (go_at_call 33; (with_reducible refine (num_calls _ _).mono ?_); rintro e w1 ⟨rfl, rfl⟩)
    | ((with_reducible refine gate_dst (N := 48) rfl ?_); refine wpList_load_row rfl _ _ rfl g3 rfl _ _ (0, 0) _ hg3 Tryd.underlying35 rfl rec_size ?_)
    | (go_at_call 34; (with_reducible refine (Cd.out _ _ _ (HT.out.next HB) (Ht.out.next HB) hd5.rb).mono ?_); rintro e W8 ⟨A6, c6, rfl, hd6, hb⟩; have hgr := grown_of_below hb; replace hd5 := hd5.kept hgr (by simp); replace hg1 := hg1.grown hgr (by simp); replace hg2 := hg2.grown hgr (by simp); replace hg3 := hg3.grown hgr (by simp); replace HB := HB.grown hgr (by have := HB.size; omega) (by simp); replace hcg1 := hg1.cell; replace hfg1 := hg1.frozen; replace hcg2 := hg2.cell; replace hfg2 := hg2.frozen; replace hcg3 := hg3.cell; replace hfg3 := hg3.frozen; clear hb hgr)
    | ((with_reducible refine gate_dst (N := 10) rfl ?_); refine ev_alloc rfl rfl _ rec_zero ?_; intro g4 W9 hg4 hsz hbn; have hgr := grown_of_below hbn; have ng1g4 : g1 ≠ g4 := (by have := hg1.lt; omega); have ng2g4 : g2 ≠ g4 := (by have := hg2.lt; omega); have ng3g4 : g3 ≠ g4 := (by have := hg3.lt; omega); replace hg4 : Blk W9 g4 _ (Rec.zero.cells none 0) := hg4; have zg4 : w.heap.size ≤ g4 := (by have := HB.size; omega); replace hd6 := hd6.kept hgr (by simp); replace hd5 := hd5.kept hgr (by simp); replace hg1 := hg1.grown hgr (by simp); replace hg2 := hg2.grown hgr (by simp); replace hg3 := hg3.grown hgr (by simp); replace HB := HB.grown hgr (by have := HB.size; omega) (by simp); have hcg4 := hg4.cell; have hfg4 := hg4.frozen; replace hcg1 := hg1.cell; replace hfg1 := hg1.frozen; replace hcg2 := hg2.cell; replace hfg2 := hg2.frozen; replace hcg3 := hg3.cell; replace hfg3 := hg3.frozen; clear hsz hbn hgr)
    | ((with_reducible refine gate_store (p := 10) rfl ?_); refine ev_store_row (cs := r.cells A6 c6) rfl rfl rfl hg4 rfl rfl rec_size rfl (cells_one _ _ _) ?_; intro W10 hgn hgr; replace hd6 := hd6.kept hgr (RU.ne_blk hd6 hg4 (by decide)); replace hd5 := hd5.kept hgr (RU.ne_blk hd5 hg4 (by decide)); replace hg1 := hg1.grown hgr (by intro e; injection e with e; omega); replace hg2 := hg2.grown hgr (by intro e; injection e with e; omega); replace hg3 := hg3.grown hgr (by intro e; injection e with e; omega); replace HB := HB.grown hgr (by have := HB.size; omega) (by intro k e; injection e with e; omega); replace hg4 := hgn; replace hcg1 := hg1.cell; replace hfg1 := hg1.frozen; replace hcg2 := hg2.cell; replace hfg2 := hg2.frozen; replace hcg3 := hg3.cell; replace hfg3 := hg3.frozen; replace hcg4 := hg4.cell; replace hfg4 := hg4.frozen; clear hgn hgr)
    | ((with_reducible refine gate_dst (N := 59) rfl ?_); refine wpList_ungate ?_ ?_; focus (first | rfl | (simp [Region.wanted, yielded]; done)); refine wpList_load_row rfl _ _ rfl g3 rfl _ _ (0, 0) _ hg3 Tryd.underlying35 rfl rec_size ?_)
    | (go_at_call 49; (with_reducible refine (Ck.out _ _ _ (HR.out.next HB) hd5.rb).mono ?_); rintro e W11 ⟨rfl, hb⟩; have hgr := grown_of_below hb; replace hd6 := hd6.kept hgr (by simp); replace hd5 := hd5.kept hgr (by simp); replace hg1 := hg1.grown hgr (by simp); replace hg2 := hg2.grown hgr (by simp); replace hg3 := hg3.grown hgr (by simp); replace hg4 := hg4.grown hgr (by simp); replace HB := HB.grown hgr (by have := HB.size; omega) (by simp); replace hcg1 := hg1.cell; replace hfg1 := hg1.frozen; replace hcg2 := hg2.cell; replace hfg2 := hg2.frozen; replace hcg3 := hg3.cell; replace hfg3 := hg3.frozen; replace hcg4 := hg4.cell; replace hfg4 := hg4.frozen; clear hb hgr)
    | ((with_reducible refine gate_dst (N := 69) rfl ?_); refine wpList_ungate ?_ ?_; focus (first | rfl | (simp [Region.wanted, yielded]; done)); refine wpList_load_row rfl _ _ rfl g4 rfl _ _ (0, 0) _ hg4 Tryd.underlying35 rfl rec_size ?_)
    | ((with_reducible refine gate_dst (N := 70) rfl ?_); refine wpList_ungate ?_ ?_; focus (first | rfl | (simp [Region.wanted, yielded]; done)); refine wpList_load_row rfl _ _ rfl g1 rfl _ _ (0, 0) _ hg1 Tryd.underlying35 rfl rec_size ?_)
    | (go_at_call 35; (with_reducible refine (same_later r _ _ _ _ _ hd6.rb (hd.next HB) hrl).mono ?_); rintro e W12 ⟨rfl, hb⟩; have hgr := grown_of_below hb; replace hd6 := hd6.kept hgr (by simp); replace hd5 := hd5.kept hgr (by simp); replace hg1 := hg1.grown hgr (by simp); replace hg2 := hg2.grown hgr (by simp); replace hg3 := hg3.grown hgr (by simp); replace hg4 := hg4.grown hgr (by simp); replace HB := HB.grown hgr (by have := HB.size; omega) (by simp); replace hcg1 := hg1.cell; replace hfg1 := hg1.frozen; replace hcg2 := hg2.cell; replace hfg2 := hg2.frozen; replace hcg3 := hg3.cell; replace hfg3 := hg3.frozen; replace hcg4 := hg4.cell; replace hfg4 := hg4.frozen; clear hb hgr))
  go_ret
  exact ⟨rfl, HB⟩

set_option maxHeartbeats 8000000 in
set_option maxRecDepth 100000 in
theorem liftLoss_lost (r q : Rec) (A B : Option Addr) (c d : Nat) (to : Int) (hf : r.Fits) (hfq : q.Fits) (hz : r.Name.size ≤ 1099511627776) (w : World) (hT : Tabs w) (ht : Tab w 2 waysL) (hR : RTabs w) (hd : RB w A r.Data) (he : RB w B q.Data)
    (hc : r.chk = 0) (h2 : 1 ≤ to) (h3 : to ≤ r.V) (hF : turnF r to = false) :
    Calls Tryd.prog 8 #[.agg (r.cells A c), .agg (q.cells B d), .int .i64 to] w fun e w' => e = .returned (.bool true) ∧ Below w.heap.size w w' := by
  have HB := Below.refl w.heap.size w
  have HT := Lib.hid hT
  have Ht := Lib.hid ht
  have HR := Lib.hid hR
  clear hT ht hR
  have hv3 := ((chk_ok r).1 hc).1
  have hne : to ≠ r.V := by
    intro e
    rw [e, (turn_self rfl).2] at hF
    cases hF
  have s1 : decide (to < 1) = false := by simp; omega
  have s2 : decide (r.V < to) = false := by simp; omega
  have s3 : decide (to < r.V) = true := by simp; omega
  have cu := fun w => down_calls r A c to hf w
  have cc := fun w => ref_check_of r 0 hc A c hz w
  have cq := fun w => up_calls q B d r.V hfq w
  have e40 : downE r to = 40 := by rw [downE_of hc h2 h3, hF]; rfl
  rw [e40] at cu
  have hfin : q.V = to → upE q r.V = 0 → upR q r.V = r → False := by
    intro e1 e2 e3
    have hcq : q.chk = 0 := by
      by_cases h : q.chk = 0
      · exact h
      · unfold upE at e2
        rw [if_pos h] at e2
        exact e2
    obtain ⟨_, u2'⟩ := upE_of hcq (v := r.V) (by omega) (by omega)
    have := (up_ok hcq (to := r.V) (by omega) (by omega)).2.2.2.2.1
    rw [← u2', e3, e1, hF] at this
    cases this
  have hbl := (hfq.up r.V).data
  have hrl := hf.data
  generalize downR r to = u at cu
  generalize upR q r.V = b at cq hfin hbl
  generalize upE q r.V = g at cq hfin
  have Cu := Lib.hid cu
  have Cc := Lib.hid cc
  have Cq := Lib.hid cq
  have m2 : True := trivial
  clear cu cc cq e40 hc h2 h3 hv3 hF hne
  have key : ∀ vb gb x : Bool, (q.V != to) = vb → (g != 0) = gb → b.same r = x → Calls Tryd.prog 8 #[.agg (r.cells A c), .agg (q.cells B d), .int .i64 to] w fun e w' => e = .returned (.bool true) ∧ Below w.heap.size w w' := by
    intro vb gb x hv hg hx
    have hall : ¬ (vb = false ∧ gb = false ∧ x = true) := by
      rintro ⟨rfl, rfl, rfl⟩
      exact hfin (by simpa using hv) (by simpa using hg) (Rec.same_iff.1 hx)
    clear hfin
    cases vb <;> cases gb <;> cases x
    all_goals first
      | (exact absurd ⟨rfl, rfl, rfl⟩ hall)
      | skip
    all_goals
      clear hall
      go_enter Tryd.func8, Tryd.ntmps8
      go_wp2_with (first
        | ((with_reducible refine gate_dst (N := 3) rfl ?_); refine ev_box rfl rfl (r.cells A c) rfl ?_; intro g1 W1 hg1 hsz hbn; have hgr := grown_of_below hbn; have zg1 : w.heap.size ≤ g1 := (by have := HB.size; omega); replace HB := HB.grown hgr (by have := HB.size; omega) (by simp); have hcg1 := hg1.cell; have hfg1 := hg1.frozen; clear hsz hbn hgr)
        | ((with_reducible refine gate_dst (N := 4) rfl ?_); refine ev_box rfl rfl (q.cells B d) rfl ?_; intro g2 W2 hg2 hsz hbn; have hgr := grown_of_below hbn; have ng1g2 : g1 ≠ g2 := (by have := hg1.lt; omega); have zg2 : w.heap.size ≤ g2 := (by have := HB.size; omega); replace hg1 := hg1.grown hgr (by simp); replace HB := HB.grown hgr (by have := HB.size; omega) (by simp); have hcg2 := hg2.cell; have hfg2 := hg2.frozen; replace hcg1 := hg1.cell; replace hfg1 := hg1.frozen; clear hsz hbn hgr)
        | ((with_reducible refine gate_dst (N := 15) rfl ?_); refine wpList_load_row rfl _ _ rfl g1 rfl _ _ (0, 0) _ hg1 Tryd.underlying35 rfl rec_size ?_)
        | (go_at_call 50; (with_reducible refine (Cu.out _ (HT.out.next HB) (Ht.out.next HB) (hd.next HB)).mono ?_); rintro e W3 ⟨A5, c5, rfl, hd5, hb⟩; have hgr := grown_of_below hb; replace hg1 := hg1.grown hgr (by simp); replace hg2 := hg2.grown hgr (by simp); replace HB := HB.grown hgr (by have := HB.size; omega) (by simp); replace hcg1 := hg1.cell; replace hfg1 := hg1.frozen; replace hcg2 := hg2.cell; replace hfg2 := hg2.frozen; clear hb hgr)
        | ((with_reducible refine gate_dst (N := 7) rfl ?_); refine ev_alloc rfl rfl _ rec_zero ?_; intro g3 W4 hg3 hsz hbn; have hgr := grown_of_below hbn; have ng1g3 : g1 ≠ g3 := (by have := hg1.lt; omega); have ng2g3 : g2 ≠ g3 := (by have := hg2.lt; omega); replace hg3 : Blk W4 g3 _ (Rec.zero.cells none 0) := hg3; have zg3 : w.heap.size ≤ g3 := (by have := HB.size; omega); replace hd5 := hd5.kept hgr (by simp); replace hg1 := hg1.grown hgr (by simp); replace hg2 := hg2.grown hgr (by simp); replace HB := HB.grown hgr (by have := HB.size; omega) (by simp); have hcg3 := hg3.cell; have hfg3 := hg3.frozen; replace hcg1 := hg1.cell; replace hfg1 := hg1.frozen; replace hcg2 := hg2.cell; replace hfg2 := hg2.frozen; clear hsz hbn hgr)
        | ((with_reducible refine gate_store (p := 7) rfl ?_); refine ev_store_row (cs := u.cells A5 c5) rfl rfl rfl hg3 rfl rfl rec_size rfl (cells_one _ _ _) ?_; intro W5 hgn hgr; replace hd5 := hd5.kept hgr (RU.ne_blk hd5 hg3 (by decide)); replace hg1 := hg1.grown hgr (by intro e; injection e with e; omega); replace hg2 := hg2.grown hgr (by intro e; injection e with e; omega); replace HB := HB.grown hgr (by have := HB.size; omega) (by intro k e; injection e with e; omega); replace hg3 := hgn; replace hcg1 := hg1.cell; replace hfg1 := hg1.frozen; replace hcg2 := hg2.cell; replace hfg2 := hg2.frozen; replace hcg3 := hg3.cell; replace hfg3 := hg3.frozen; clear hgn hgr)
        | (go_at_call 48; (with_reducible refine (started_calls _ (HT.out.next HB) (Ht.out.next HB)).mono ?_); rintro e W6 ⟨rfl, hb⟩; have hgr := grown_of_below hb; replace hd5 := hd5.kept hgr (by simp); replace hg1 := hg1.grown hgr (by simp); replace hg2 := hg2.grown hgr (by simp); replace hg3 := hg3.grown hgr (by simp); replace HB := HB.grown hgr (by have := HB.size; omega) (by simp); replace hcg1 := hg1.cell; replace hfg1 := hg1.frozen; replace hcg2 := hg2.cell; replace hfg2 := hg2.frozen; replace hcg3 := hg3.cell; replace hfg3 := hg3.frozen; clear hb hgr)
        | ((with_reducible refine gate_dst (N := 24) rfl ?_); refine wpList_ungate ?_ ?_; focus (first | rfl | (simp [Region.wanted, yielded]; done)); refine wpList_load_row rfl _ _ rfl g1 rfl _ _ (0, 0) _ hg1 Tryd.underlying35 rfl rec_size ?_)
        | (go_at_call 49; clear m2; (with_reducible refine (Cc.out _ (HR.out.next HB) (hd.next HB)).mono ?_); rintro e W7 ⟨rfl, hb⟩; have hgr := grown_of_below hb; replace hd5 := hd5.kept hgr (by simp); replace hg1 := hg1.grown hgr (by simp); replace hg2 := hg2.grown hgr (by simp); replace hg3 := hg3.grown hgr (by simp); replace HB := HB.grown hgr (by have := HB.size; omega) (by simp); replace hcg1 := hg1.cell; replace hfg1 := hg1.frozen; replace hcg2 := hg2.cell; replace hfg2 := hg2.frozen; replace hcg3 := hg3.cell; replace hfg3 := hg3.frozen; clear hb hgr)
        | (go_at_call 33; (with_reducible refine (num_calls _ _).mono ?_); rintro e w1 ⟨rfl, rfl⟩)
        | ((with_reducible refine gate_dst (N := 74) rfl ?_); refine wpList_load_row rfl _ _ rfl g2 rfl _ _ (0, 0) _ hg2 Tryd.underlying35 rfl rec_size ?_)
        | (go_at_call 34; (with_reducible refine (Cq.out _ (HT.out.next HB) (Ht.out.next HB) (he.next HB)).mono ?_); rintro e W8 ⟨A7, c7, rfl, hd7, hb⟩; have hgr := grown_of_below hb; replace hd5 := hd5.kept hgr (by simp); replace hg1 := hg1.grown hgr (by simp); replace hg2 := hg2.grown hgr (by simp); replace hg3 := hg3.grown hgr (by simp); replace HB := HB.grown hgr (by have := HB.size; omega) (by simp); replace hcg1 := hg1.cell; replace hfg1 := hg1.frozen; replace hcg2 := hg2.cell; replace hfg2 := hg2.frozen; replace hcg3 := hg3.cell; replace hfg3 := hg3.frozen; clear hb hgr)
        | ((with_reducible refine gate_dst (N := 12) rfl ?_); refine ev_alloc rfl rfl _ rec_zero ?_; intro g5 W9 hg5 hsz hbn; have hgr := grown_of_below hbn; have ng1g5 : g1 ≠ g5 := (by have := hg1.lt; omega); have ng2g5 : g2 ≠ g5 := (by have := hg2.lt; omega); have ng3g5 : g3 ≠ g5 := (by have := hg3.lt; omega); replace hg5 : Blk W9 g5 _ (Rec.zero.cells none 0) := hg5; have zg5 : w.heap.size ≤ g5 := (by have := HB.size; omega); replace hd7 := hd7.kept hgr (by simp); replace hd5 := hd5.kept hgr (by simp); replace hg1 := hg1.grown hgr (by simp); replace hg2 := hg2.grown hgr (by simp); replace hg3 := hg3.grown hgr (by simp); replace HB := HB.grown hgr (by have := HB.size; omega) (by simp); have hcg5 := hg5.cell; have hfg5 := hg5.frozen; replace hcg1 := hg1.cell; replace hfg1 := hg1.frozen; replace hcg2 := hg2.cell; replace hfg2 := hg2.frozen; replace hcg3 := hg3.cell; replace hfg3 := hg3.frozen; clear hsz hbn hgr)
        | ((with_reducible refine gate_store (p := 12) rfl ?_); refine ev_store_row (cs := b.cells A7 c7) rfl rfl rfl hg5 rfl rfl rec_size rfl (cells_one _ _ _) ?_; intro W10 hgn hgr; replace hd7 := hd7.kept hgr (RU.ne_blk hd7 hg5 (by decide)); replace hd5 := hd5.kept hgr (RU.ne_blk hd5 hg5 (by decide)); replace hg1 := hg1.grown hgr (by intro e; injection e with e; omega); replace hg2 := hg2.grown hgr (by intro e; injection e with e; omega); replace hg3 := hg3.grown hgr (by intro e; injection e with e; omega); replace HB := HB.grown hgr (by have := HB.size; omega) (by intro k e; injection e with e; omega); replace hg5 := hgn; replace hcg1 := hg1.cell; replace hfg1 := hg1.frozen; replace hcg2 := hg2.cell; replace hfg2 := hg2.frozen; replace hcg3 := hg3.cell; replace hfg3 := hg3.frozen; replace hcg5 := hg5.cell; replace hfg5 := hg5.frozen; clear hgn hgr)
        | ((with_reducible refine gate_dst (N := 100) rfl ?_); refine wpList_ungate ?_ ?_; focus (first | rfl | (simp [Region.wanted, yielded]; done)); refine wpList_load_row rfl _ _ rfl g5 rfl _ _ (0, 0) _ hg5 Tryd.underlying35 rfl rec_size ?_)
        | ((with_reducible refine gate_dst (N := 101) rfl ?_); refine wpList_ungate ?_ ?_; focus (first | rfl | (simp [Region.wanted, yielded]; done)); refine wpList_load_row rfl _ _ rfl g1 rfl _ _ (0, 0) _ hg1 Tryd.underlying35 rfl rec_size ?_)
        | (go_at_call 35; (with_reducible refine (ref_same b r _ hx _ _ _ _ _ hd7.rb (hd.next HB) hbl hrl).mono ?_); rintro e W11 ⟨rfl, hb⟩; have hgr := grown_of_below hb; replace hd7 := hd7.kept hgr (by simp); replace hd5 := hd5.kept hgr (by simp); replace hg1 := hg1.grown hgr (by simp); replace hg2 := hg2.grown hgr (by simp); replace hg3 := hg3.grown hgr (by simp); replace hg5 := hg5.grown hgr (by simp); replace HB := HB.grown hgr (by have := HB.size; omega) (by simp); replace hcg1 := hg1.cell; replace hfg1 := hg1.frozen; replace hcg2 := hg2.cell; replace hfg2 := hg2.frozen; replace hcg3 := hg3.cell; replace hfg3 := hg3.frozen; replace hcg5 := hg5.cell; replace hfg5 := hg5.frozen; clear hb hgr))
      go_ret
      exact ⟨rfl, HB⟩
  exact key _ _ _ rfl rfl rfl
theorem liftLoss_calls (r q : Rec) (A B : Option Addr) (c d : Nat) (to : Int) (hf : r.Fits) (hfq : q.Fits) (hz : r.Name.size ≤ 1099511627776) (w : World) (hT : Tabs w) (ht : Tab w 2 waysL) (hR : RTabs w) (hd : RB w A r.Data) (he : RB w B q.Data) :
    Calls Tryd.prog 8 #[.agg (r.cells A c), .agg (q.cells B d), .int .i64 to] w fun e w' => e = .returned (.bool true) ∧ Below w.heap.size w w' := by
  by_cases h : r.chk = 0 ∧ 1 ≤ to ∧ to ≤ r.V
  · cases hF : turnF r to
    · exact liftLoss_lost r q A B c d to hf hfq hz w hT ht hR hd he h.1 h.2.1 h.2.2 hF
    · exact liftLoss_down r q A B c d to hf hz w hT ht hR hd h.1 h.2.1 h.2.2 hF
  · refine liftLoss_bad r q A B c d to hf hz w hT ht hR hd _ _ _ rfl rfl rfl ?_
    by_cases h1 : r.chk = 0
    · by_cases h2 : to < 1
      · simp [h2]
      · have : r.V < to := by omega
        simp [this]
    · simp [h1]
end Go.Proofs.YtjhiohjpkdjkoaaDoor
