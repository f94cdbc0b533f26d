/-
  The walk of lift.Up.
-/
import Derived.Test.YtjhiohjpkdjkoaaDoorD2
import Derived.Test.YtjhiohjpkdjkoaaDoorC3
set_option linter.unusedVariables false
set_option linter.unusedSimpArgs false
namespace Go.Proofs.YtjhiohjpkdjkoaaDoor
open Go.RowKit
attribute [local go_sem] Rec.size_ Rec.g0 Rec.g1 Rec.g2 Rec.g3 Rec.g4 Rec.g5 Rec.g6 Rec.g7 Rec.g8 Rec.g9 Rec.g10 Rec.g11 Rec.fold

theorem hops_up {to : Int} (hto : Ver to) : HopsTo to (fun a => a ≤ to) := by
  intro a q A c w hle hv hne hf hd
  change a ≤ to at hle
  obtain rfl | rfl | rfl := hv
  · exact fill_calls q A c w hd
  · have e1 : hopFn 2 to = 109 := by unfold hopFn; rw [if_neg (by decide), if_neg (by decide), if_neg (by omega)]
    have e2 : hopR 2 to q = q := by unfold hopR; rw [if_neg (by decide), if_neg (by decide), if_neg (by omega)]
    have e3 : hopF 2 to q = true := by unfold hopF; rw [if_neg (by decide), if_neg (by decide), if_neg (by omega)]
    rw [e1, e2, e3]
    exact stay_calls q A c w hd
  · exfalso
    unfold Ver at hto
    omega
theorem turnedUp_calls (to : Int) (hto : Ver to) (r : Rec) (A : Option Addr) (c : Nat) (hf : r.Fits) (hr : Ver r.V) (hle : r.V ≤ to) (w : World) (ht : Tab w 2 waysL) (hd : RB w A r.Data) :
    Calls Tryd.prog 88 #[.agg (r.cells A c), .int .i64 to] w fun e w' => ∃ A' c', e = .returned (.tuple #[.agg ((turnR r to).cells A' c'), .bool (turnF r to)]) ∧ RU w' A' (turnR r to).Data ∧ Below w.heap.size w w' :=
  turnedBy_calls to hto (fun a => a ≤ to) (hops_up hto) (fun a ha hv hne => by
    change a ≤ to at ha
    change hopTo a to ≤ to
    unfold hopTo
    unfold Ver at hv hto
    split
    · omega
    · split <;> omega) r A c hf hr hle w ht hd

set_option maxHeartbeats 2000000 in
set_option maxRecDepth 100000 in
theorem up_calls (r : Rec) (A : Option Addr) (c : Nat) (to : Int) (hf : r.Fits) (w : World) (hT : Tabs w) (ht : Tab w 2 waysL) (hd : RB w A r.Data) :
    Calls Tryd.prog 34 #[.agg (r.cells A c), .int .i64 to] w fun e w' => ∃ A' c', e = .returned (.tuple #[.agg ((upR r to).cells A' c'), .int .i64 (upE r to)]) ∧ RU w' A' (upR r to).Data ∧ Below w.heap.size w w' := by
  have HB := Below.refl w.heap.size w
  have HT := Lib.hid hT
  have Ht := Lib.hid ht
  clear hT ht
  by_cases hc : r.chk = 0
  · have t1 := int_bne_false hc
    have hv3 : 1 ≤ r.V ∧ r.V ≤ 3 := ((chk_ok r).1 hc).1
    cases hk : known to
    · have e1 : upE r to = 3 := by unfold upE; rw [if_neg (by rw [hc]; simp), hk, if_pos (by decide)]
      have e2 : upR r to = Rec.zero := by unfold upR; rw [e1, if_neg (by decide)]
      rw [e1, e2]
      have hk' : (decide (1 ≤ to) && decide (to ≤ 3)) = false := hk
      clear hc e1 e2 hv3 hk
      go_enter Tryd.func34, Tryd.ntmps34
      go_wp2_with (first
        | ((with_reducible refine gate_dst (N := 2) rfl ?_); refine ev_box rfl rfl (r.cells A c) rfl ?_; intro g1 W1 hg1 hsz hbn; have hgr := grown_of_below hbn; have zg1 : w.heap.size ≤ g1 := (by have := HB.size; omega); replace HB := HB.grown hgr (by have := HB.size; omega) (by simp); have hcg1 := hg1.cell; have hfg1 := hg1.frozen; clear hsz hbn hgr)
        | ((with_reducible refine gate_dst (N := 4) rfl ?_); refine ev_alloc rfl rfl _ rec_zero ?_; intro g2 W2 hg2 hsz hbn; have hgr := grown_of_below hbn; have ng1g2 : g1 ≠ g2 := (by have := hg1.lt; omega); replace hg2 : Blk W2 g2 _ (Rec.zero.cells none 0) := hg2; have zg2 : w.heap.size ≤ g2 := (by have := HB.size; omega); replace hg1 := hg1.grown hgr (by simp); replace HB := HB.grown hgr (by have := HB.size; omega) (by simp); have hcg2 := hg2.cell; have hfg2 := hg2.frozen; replace hcg1 := hg1.cell; replace hfg1 := hg1.frozen; clear hsz hbn hgr)
        | ((with_reducible refine gate_dst (N := 9) rfl ?_); refine wpList_load_row rfl _ _ rfl g1 rfl _ _ (0, 0) _ hg1 Tryd.underlying35 rfl rec_size ?_)
        | (go_at_call 75; (with_reducible refine (check_calls r A c hf _ (HT.out.next HB) (hd.next HB)).mono ?_); rintro e W3 ⟨rfl, hb⟩; have hgr := grown_of_below hb; replace hg1 := hg1.grown hgr (by simp); replace hg2 := hg2.grown hgr (by simp); replace HB := HB.grown hgr (by have := HB.size; omega) (by simp); replace hcg1 := hg1.cell; replace hfg1 := hg1.frozen; replace hcg2 := hg2.cell; replace hfg2 := hg2.frozen; clear hb hgr)
        | (go_at_call 86; (with_reducible refine (known_calls _ _).mono ?_); rintro e w1 ⟨rfl, rfl⟩; rw [hk'])
        | ((with_reducible refine gate_store (p := 4) rfl ?_); refine ev_store_row (cs := Rec.zero.cells none 0) rfl rfl rfl hg2 rfl rfl rec_size rfl (cells_one _ _ _) ?_; intro W4 hgn hgr; replace hg1 := hg1.grown hgr (by intro e; injection e with e; omega); replace HB := HB.grown hgr (by have := HB.size; omega) (by intro k e; injection e with e; omega); replace hg2 := hgn; replace hcg1 := hg1.cell; replace hfg1 := hg1.frozen; replace hcg2 := hg2.cell; replace hfg2 := hg2.frozen; clear hgn hgr))
      refine ret_row rfl hg2 rfl Tryd.underlying35 rfl rec_size rfl ?_
      exact ⟨none, 0, rfl, RU.nil, HB⟩
    · have hk' : (decide (1 ≤ to) && decide (to ≤ 3)) = true := hk
      have hto : Ver to := by
        simp only [Bool.and_eq_true, decide_eq_true_eq] at hk'
        exact Ver.of hk'.1 hk'.2
      by_cases hlt : to < r.V
      · have e1 : upE r to = 41 := by unfold upE; rw [if_neg (by rw [hc]; simp), hk, if_neg (by decide), if_pos hlt]
        have e2 : upR r to = Rec.zero := by unfold upR; rw [e1, if_neg (by decide)]
        rw [e1, e2]
        have t2 : decide (to < r.V) = true := by simp [hlt]
        clear hc e1 e2 hlt hv3 hk hto
        go_enter Tryd.func34, Tryd.ntmps34
        go_wp2_with (first
          | ((with_reducible refine gate_dst (N := 2) rfl ?_); refine ev_box rfl rfl (r.cells A c) rfl ?_; intro g1 W1 hg1 hsz hbn; have hgr := grown_of_below hbn; have zg1 : w.heap.size ≤ g1 := (by have := HB.size; omega); replace HB := HB.grown hgr (by have := HB.size; omega) (by simp); have hcg1 := hg1.cell; have hfg1 := hg1.frozen; clear hsz hbn hgr)
          | ((with_reducible refine gate_dst (N := 4) rfl ?_); refine ev_alloc rfl rfl _ rec_zero ?_; intro g2 W2 hg2 hsz hbn; have hgr := grown_of_below hbn; have ng1g2 : g1 ≠ g2 := (by have := hg1.lt; omega); replace hg2 : Blk W2 g2 _ (Rec.zero.cells none 0) := hg2; have zg2 : w.heap.size ≤ g2 := (by have := HB.size; omega); replace hg1 := hg1.grown hgr (by simp); replace HB := HB.grown hgr (by have := HB.size; omega) (by simp); have hcg2 := hg2.cell; have hfg2 := hg2.frozen; replace hcg1 := hg1.cell; replace hfg1 := hg1.frozen; clear hsz hbn hgr)
          | ((with_reducible refine gate_dst (N := 9) rfl ?_); refine wpList_load_row rfl _ _ rfl g1 rfl _ _ (0, 0) _ hg1 Tryd.underlying35 rfl rec_size ?_)
          | (go_at_call 75; (with_reducible refine (check_calls r A c hf _ (HT.out.next HB) (hd.next HB)).mono ?_); rintro e W3 ⟨rfl, hb⟩; have hgr := grown_of_below hb; replace hg1 := hg1.grown hgr (by simp); replace hg2 := hg2.grown hgr (by simp); replace HB := HB.grown hgr (by have := HB.size; omega) (by simp); replace hcg1 := hg1.cell; replace hfg1 := hg1.frozen; replace hcg2 := hg2.cell; replace hfg2 := hg2.frozen; clear hb hgr)
          | (go_at_call 86; (with_reducible refine (known_calls _ _).mono ?_); rintro e w1 ⟨rfl, rfl⟩; rw [hk'])
          | ((with_reducible refine gate_store (p := 4) rfl ?_); refine ev_store_row (cs := Rec.zero.cells none 0) rfl rfl rfl hg2 rfl rfl rec_size rfl (cells_one _ _ _) ?_; intro W4 hgn hgr; replace hg1 := hg1.grown hgr (by intro e; injection e with e; omega); replace HB := HB.grown hgr (by have := HB.size; omega) (by intro k e; injection e with e; omega); replace hg2 := hgn; replace hcg1 := hg1.cell; replace hfg1 := hg1.frozen; replace hcg2 := hg2.cell; replace hfg2 := hg2.frozen; clear hgn hgr))
        refine ret_row rfl hg2 rfl Tryd.underlying35 rfl rec_size rfl ?_
        exact ⟨none, 0, rfl, RU.nil, HB⟩
      · have e1 : upE r to = 0 := by unfold upE; rw [if_neg (by rw [hc]; simp), hk, if_neg (by decide), if_neg hlt]
        have e2 : upR r to = turnR r to := by unfold upR; rw [e1, if_pos rfl]
        rw [e1, e2]
        have t2 : decide (to < r.V) = false := by simp; omega
        have hle : r.V ≤ to := by omega
        have Hto := Lib.hid hto
        have Hvr := Lib.hid (Ver.of hv3.1 hv3.2)
        clear hc e1 e2 hlt hv3 hk hto
        go_enter Tryd.func34, Tryd.ntmps34
        go_wp2_with (first
          | ((with_reducible refine gate_dst (N := 2) rfl ?_); refine ev_box rfl rfl (r.cells A c) rfl ?_; intro g1 W1 hg1 hsz hbn; have hgr := grown_of_below hbn; have zg1 : w.heap.size ≤ g1 := (by have := HB.size; omega); replace HB := HB.grown hgr (by have := HB.size; omega) (by simp); have hcg1 := hg1.cell; have hfg1 := hg1.frozen; clear hsz hbn hgr)
          | ((with_reducible refine gate_dst (N := 4) rfl ?_); refine ev_alloc rfl rfl _ rec_zero ?_; intro g2 W2 hg2 hsz hbn; have hgr := grown_of_below hbn; have ng1g2 : g1 ≠ g2 := (by have := hg1.lt; omega); replace hg2 : Blk W2 g2 _ (Rec.zero.cells none 0) := hg2; have zg2 : w.heap.size ≤ g2 := (by have := HB.size; omega); replace hg1 := hg1.grown hgr (by simp); replace HB := HB.grown hgr (by have := HB.size; omega) (by simp); have hcg2 := hg2.cell; have hfg2 := hg2.frozen; replace hcg1 := hg1.cell; replace hfg1 := hg1.frozen; clear hsz hbn hgr)
          | ((with_reducible refine gate_dst (N := 9) rfl ?_); refine wpList_load_row rfl _ _ rfl g1 rfl _ _ (0, 0) _ hg1 Tryd.underlying35 rfl rec_size ?_)
          | (go_at_call 75; (with_reducible refine (check_calls r A c hf _ (HT.out.next HB) (hd.next HB)).mono ?_); rintro e W3 ⟨rfl, hb⟩; have hgr := grown_of_below hb; replace hg1 := hg1.grown hgr (by simp); replace hg2 := hg2.grown hgr (by simp); replace HB := HB.grown hgr (by have := HB.size; omega) (by simp); replace hcg1 := hg1.cell; replace hfg1 := hg1.frozen; replace hcg2 := hg2.cell; replace hfg2 := hg2.frozen; clear hb hgr)
          | (go_at_call 86; (with_reducible refine (known_calls _ _).mono ?_); rintro e w1 ⟨rfl, rfl⟩; rw [hk'])
          | ((with_reducible refine gate_dst (N := 25) rfl ?_); refine wpList_load_row rfl _ _ rfl g1 rfl _ _ (0, 0) _ hg1 Tryd.underlying35 rfl rec_size ?_)
          | (go_at_call 88; (with_reducible refine (turnedUp_calls to Hto.out r A c hf Hvr.out hle _ (Ht.out.next HB) (hd.next HB)).mono ?_); rintro e W4 ⟨A5, c5, rfl, hd5, hb⟩; have hgr := grown_of_below hb; replace hg1 := hg1.grown hgr (by simp); replace hg2 := hg2.grown hgr (by simp); replace HB := HB.grown hgr (by have := HB.size; omega) (by simp); replace hcg1 := hg1.cell; replace hfg1 := hg1.frozen; replace hcg2 := hg2.cell; replace hfg2 := hg2.frozen; clear hb hgr)
          | ((with_reducible refine gate_dst (N := 7) rfl ?_); refine ev_alloc rfl rfl _ rec_zero ?_; intro g3 W5 hg3 hsz hbn; have hgr := grown_of_below hbn; have ng1g3 : g1 ≠ g3 := (by have := hg1.lt; omega); have ng2g3 : g2 ≠ g3 := (by have := hg2.lt; omega); replace hg3 : Blk W5 g3 _ (Rec.zero.cells none 0) := hg3; have zg3 : w.heap.size ≤ g3 := (by have := HB.size; omega); replace hd5 := hd5.kept hgr (by simp); replace hg1 := hg1.grown hgr (by simp); replace hg2 := hg2.grown hgr (by simp); replace HB := HB.grown hgr (by have := HB.size; omega) (by simp); have hcg3 := hg3.cell; have hfg3 := hg3.frozen; replace hcg1 := hg1.cell; replace hfg1 := hg1.frozen; replace hcg2 := hg2.cell; replace hfg2 := hg2.frozen; clear hsz hbn hgr)
          | ((with_reducible refine gate_store (p := 7) rfl ?_); refine ev_store_row (cs := (turnR r to).cells A5 c5) rfl rfl rfl hg3 rfl rfl rec_size rfl (cells_one _ _ _) ?_; intro W6 hgn hgr; replace hd5 := hd5.kept hgr (RU.ne_blk hd5 hg3 (by decide)); replace hg1 := hg1.grown hgr (by intro e; injection e with e; omega); replace hg2 := hg2.grown hgr (by intro e; injection e with e; omega); replace HB := HB.grown hgr (by have := HB.size; omega) (by intro k e; injection e with e; omega); replace hg3 := hgn; replace hcg1 := hg1.cell; replace hfg1 := hg1.frozen; replace hcg2 := hg2.cell; replace hfg2 := hg2.frozen; replace hcg3 := hg3.cell; replace hfg3 := hg3.frozen; clear hgn hgr)
          | ((with_reducible refine gate_dst (N := 30) rfl ?_); refine wpList_load_row rfl _ _ rfl g3 rfl _ _ (0, 0) _ hg3 Tryd.underlying35 rfl rec_size ?_)
          | ((with_reducible refine gate_store (p := 4) rfl ?_); refine ev_store_row (cs := (turnR r to).cells A5 c5) rfl rfl rfl hg2 rfl rfl rec_size rfl (cells_one _ _ _) ?_; intro W7 hgn hgr; replace hd5 := hd5.kept hgr (RU.ne_blk hd5 hg2 (by decide)); replace hg1 := hg1.grown hgr (by intro e; injection e with e; omega); replace hg3 := hg3.grown hgr (by intro e; injection e with e; omega); replace HB := HB.grown hgr (by have := HB.size; omega) (by intro k e; injection e with e; omega); replace hg2 := hgn; replace hcg1 := hg1.cell; replace hfg1 := hg1.frozen; replace hcg2 := hg2.cell; replace hfg2 := hg2.frozen; replace hcg3 := hg3.cell; replace hfg3 := hg3.frozen; clear hgn hgr))
        refine ret_row rfl hg2 rfl Tryd.underlying35 rfl rec_size rfl ?_
        exact ⟨A5, c5, rfl, hd5, HB⟩
  · have t1 := int_bne_true hc
    have e1 : upE r to = r.chk := by unfold upE; rw [if_pos hc]
    have e2 : upR r to = Rec.zero := by unfold upR; rw [e1, if_neg hc]
    rw [e1, e2]
    clear hc e1 e2
    go_enter Tryd.func34, Tryd.ntmps34
    go_wp2_with (first
      | ((with_reducible refine gate_dst (N := 2) rfl ?_); refine ev_box rfl rfl (r.cells A c) rfl ?_; intro g1 W1 hg1 hsz hbn; have hgr := grown_of_below hbn; have zg1 : w.heap.size ≤ g1 := (by have := HB.size; omega); replace HB := HB.grown hgr (by have := HB.size; omega) (by simp); have hcg1 := hg1.cell; have hfg1 := hg1.frozen; clear hsz hbn hgr)
      | ((with_reducible refine gate_dst (N := 4) rfl ?_); refine ev_alloc rfl rfl _ rec_zero ?_; intro g2 W2 hg2 hsz hbn; have hgr := grown_of_below hbn; have ng1g2 : g1 ≠ g2 := (by have := hg1.lt; omega); replace hg2 : Blk W2 g2 _ (Rec.zero.cells none 0) := hg2; have zg2 : w.heap.size ≤ g2 := (by have := HB.size; omega); replace hg1 := hg1.grown hgr (by simp); replace HB := HB.grown hgr (by have := HB.size; omega) (by simp); have hcg2 := hg2.cell; have hfg2 := hg2.frozen; replace hcg1 := hg1.cell; replace hfg1 := hg1.frozen; clear hsz hbn hgr)
      | ((with_reducible refine gate_dst (N := 9) rfl ?_); refine wpList_load_row rfl _ _ rfl g1 rfl _ _ (0, 0) _ hg1 Tryd.underlying35 rfl rec_size ?_)
      | (go_at_call 75; (with_reducible refine (check_calls r A c hf _ (HT.out.next HB) (hd.next HB)).mono ?_); rintro e W3 ⟨rfl, hb⟩; have hgr := grown_of_below hb; replace hg1 := hg1.grown hgr (by simp); replace hg2 := hg2.grown hgr (by simp); replace HB := HB.grown hgr (by have := HB.size; omega) (by simp); replace hcg1 := hg1.cell; replace hfg1 := hg1.frozen; replace hcg2 := hg2.cell; replace hfg2 := hg2.frozen; clear hb hgr)
      | ((with_reducible refine gate_store (p := 4) rfl ?_); refine ev_store_row (cs := Rec.zero.cells none 0) rfl rfl rfl hg2 rfl rfl rec_size rfl (cells_one _ _ _) ?_; intro W4 hgn hgr; replace hg1 := hg1.grown hgr (by intro e; injection e with e; omega); replace HB := HB.grown hgr (by have := HB.size; omega) (by intro k e; injection e with e; omega); replace hg2 := hgn; replace hcg1 := hg1.cell; replace hfg1 := hg1.frozen; replace hcg2 := hg2.cell; replace hfg2 := hg2.frozen; clear hgn hgr))
    refine ret_row rfl hg2 rfl Tryd.underlying35 rfl rec_size rfl ?_
    exact ⟨none, 0, rfl, RU.nil, HB⟩
end Go.Proofs.YtjhiohjpkdjkoaaDoor
