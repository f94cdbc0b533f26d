/-
  The walk of the law LiftBack.
-/
import Derived.Test.YtjhiohjpkdjkoaaDoorDG
set_option linter.unusedVariables false
set_option linter.unusedSimpArgs false
namespace Go.Proofs.YtjhiohjpkdjkoaaDoor
open Go.RowKit
attribute [local go_sem] Rec.size_ Rec.g0 Rec.g1 Rec.g2 Rec.g3 Rec.g4 Rec.g5 Rec.g6 Rec.g7 Rec.g8 Rec.g9 Rec.g10 Rec.g11 Rec.fold Rec.lit_fold Rec.same_self

/-- A valid record's name is short. -/
theorem valid_name {r : Rec} (h : r.chk = 0) : r.Name.size ≤ 1099511627776 := by
  obtain ⟨v, k, hv, hk, h1, h2, _, hval⟩ := (chk_valid r).1 h
  have h10 := hval 10 (by omega) (by omega)
  by_cases hm : may v k 10 = true
  · rw [if_pos hm, b10] at h10
    have := name_size h10
    omega
  · rw [if_neg hm, z10] at h10
    rw [h10]
    decide
theorem ref_same (a b : Rec) (x : Bool) (hx : a.same b = x) (A B : Option Addr) (c d : Nat) (w : World) (ha : RB w A a.Data) (hb : RB w B b.Data) (hla : a.Data.length ≤ 140737488351232) (hlb : b.Data.length ≤ 140737488351232) :
    Calls Tryd.prog 35 #[.agg (a.cells A c), .agg (b.cells B d)] w fun e w' => e = .returned (.bool x) ∧ Below w.heap.size w w' := by
  subst hx
  exact refSame_calls a b A B c d w ha hb hla hlb
theorem ref_check_of (r : Rec) (x : Int) (hx : r.chk = x) (A : Option Addr) (c : Nat) (hz : r.Name.size ≤ 1099511627776) (w : World) (ht : RTabs w) (hd : RB w A r.Data) :
    Calls Tryd.prog 49 #[.agg (r.cells A c)] w fun e w' => e = .returned (.int .i64 x) ∧ Below w.heap.size w w' := by
  subst hx
  exact refCheck_calls r A c hz w ht hd

/-- What is refused. -/
theorem up_bad {r : Rec} {to : Int} (h : r.chk ≠ 0 ∨ to < r.V ∨ 3 < to) : upE r to ≠ 0 := by
  unfold upE
  by_cases hc : r.chk = 0
  · rw [if_neg (by simp [hc])]
    have hv3 := ((chk_ok r).1 hc).1
    cases hk : known to
    · simp
    · have hk3 : to ≤ 3 := by unfold known at hk; simp at hk; omega
      have hlt : to < r.V := by omega
      simp [hlt]
  · rw [if_pos hc]
    exact hc
set_option maxHeartbeats 4000000 in
set_option maxRecDepth 100000 in
theorem liftBack_bad (r q : Rec) (A B : Option Addr) (c d : Nat) (to : Int) (hf : r.Fits) (hz : r.Name.size ≤ 1099511627776) (w : World) (hT : Tabs w) (ht : Tab w 2 waysL) (hR : RTabs w) (hd : RB w A r.Data)
    (b1 b2 b3 : Bool) (h1 : (r.chk != 0) = b1) (h2 : decide (to < r.V) = b2) (h3 : decide (3 < to) = b3) (hbad : (b1 || b2 || b3) = true) :
    Calls Tryd.prog 7 #[.agg (r.cells A c), .agg (q.cells B d), .int .i64 to] w fun e w' => e = .returned (.bool true) ∧ Below w.heap.size w w' := by
  have HB := Below.refl w.heap.size w
  have HT := Lib.hid hT
  have Ht := Lib.hid ht
  have HR := Lib.hid hR
  clear hT ht hR
  have hne : upE r to ≠ 0 := up_bad (by
    rcases b1 with _ | _
    · rcases b2 with _ | _
      · rcases b3 with _ | _
        · cases hbad
        · exact .inr (.inr (by simpa using h3))
      · exact .inr (.inl (by simpa using h2))
    · exact .inl (by simpa using h1))
  have t0 := int_bne_true hne
  have cu := fun w => up_calls r A c to hf w
  have cc := fun w => refCheck_calls r A c hz w
  generalize upR r to = u at cu
  generalize upE r to = ue at cu t0
  generalize r.chk = k at cc h1
  have Cu := Lib.hid cu
  have Cc := Lib.hid cc
  have m1 : True := trivial
  have m2 : True := trivial
  clear cu cc hne
  cases b1 <;> cases b2 <;> cases b3
  all_goals first
    | (cases hbad; done)
    | skip
  all_goals
    clear hbad
    go_enter Tryd.func7, Tryd.ntmps7
    go_wp2_with (first
      | ((with_reducible refine gate_dst (N := 3) rfl ?_); refine ev_box rfl rfl (r.cells A c) rfl ?_; intro g1 W1 hg1 hsz hbn; have hgr := grown_of_below hbn; have zg1 : w.heap.size ≤ g1 := (by have := HB.size; omega); replace HB := HB.grown hgr (by have := HB.size; omega) (by simp); have hcg1 := hg1.cell; have hfg1 := hg1.frozen; clear hsz hbn hgr)
      | ((with_reducible refine gate_dst (N := 4) rfl ?_); refine ev_box rfl rfl (q.cells B d) rfl ?_; intro g2 W2 hg2 hsz hbn; have hgr := grown_of_below hbn; have ng1g2 : g1 ≠ g2 := (by have := hg1.lt; omega); have zg2 : w.heap.size ≤ g2 := (by have := HB.size; omega); replace hg1 := hg1.grown hgr (by simp); replace HB := HB.grown hgr (by have := HB.size; omega) (by simp); have hcg2 := hg2.cell; have hfg2 := hg2.frozen; replace hcg1 := hg1.cell; replace hfg1 := hg1.frozen; clear hsz hbn hgr)
      | ((with_reducible refine gate_dst (N := 15) rfl ?_); refine wpList_load_row rfl _ _ rfl g1 rfl _ _ (0, 0) _ hg1 Tryd.underlying35 rfl rec_size ?_)
      | (go_at_call 34; clear m1; (with_reducible refine (Cu.out _ (HT.out.next HB) (Ht.out.next HB) (hd.next HB)).mono ?_); rintro e W3 ⟨A5, c5, rfl, hd5, hb⟩; have hgr := grown_of_below hb; replace hg1 := hg1.grown hgr (by simp); replace hg2 := hg2.grown hgr (by simp); replace HB := HB.grown hgr (by have := HB.size; omega) (by simp); replace hcg1 := hg1.cell; replace hfg1 := hg1.frozen; replace hcg2 := hg2.cell; replace hfg2 := hg2.frozen; clear hb hgr)
      | ((with_reducible refine gate_dst (N := 7) rfl ?_); refine ev_alloc rfl rfl _ rec_zero ?_; intro g3 W4 hg3 hsz hbn; have hgr := grown_of_below hbn; have ng1g3 : g1 ≠ g3 := (by have := hg1.lt; omega); have ng2g3 : g2 ≠ g3 := (by have := hg2.lt; omega); replace hg3 : Blk W4 g3 _ (Rec.zero.cells none 0) := hg3; have zg3 : w.heap.size ≤ g3 := (by have := HB.size; omega); replace hd5 := hd5.kept hgr (by simp); replace hg1 := hg1.grown hgr (by simp); replace hg2 := hg2.grown hgr (by simp); replace HB := HB.grown hgr (by have := HB.size; omega) (by simp); have hcg3 := hg3.cell; have hfg3 := hg3.frozen; replace hcg1 := hg1.cell; replace hfg1 := hg1.frozen; replace hcg2 := hg2.cell; replace hfg2 := hg2.frozen; clear hsz hbn hgr)
      | ((with_reducible refine gate_store (p := 7) rfl ?_); refine ev_store_row (cs := u.cells A5 c5) rfl rfl rfl hg3 rfl rfl rec_size rfl (cells_one _ _ _) ?_; intro W5 hgn hgr; replace hd5 := hd5.kept hgr (RU.ne_blk hd5 hg3 (by decide)); replace hg1 := hg1.grown hgr (by intro e; injection e with e; omega); replace hg2 := hg2.grown hgr (by intro e; injection e with e; omega); replace HB := HB.grown hgr (by have := HB.size; omega) (by intro k e; injection e with e; omega); replace hg3 := hgn; replace hcg1 := hg1.cell; replace hfg1 := hg1.frozen; replace hcg2 := hg2.cell; replace hfg2 := hg2.frozen; replace hcg3 := hg3.cell; replace hfg3 := hg3.frozen; clear hgn hgr)
      | (go_at_call 48; (with_reducible refine (started_calls _ (HT.out.next HB) (Ht.out.next HB)).mono ?_); rintro e W6 ⟨rfl, hb⟩; have hgr := grown_of_below hb; replace hd5 := hd5.kept hgr (by simp); replace hg1 := hg1.grown hgr (by simp); replace hg2 := hg2.grown hgr (by simp); replace hg3 := hg3.grown hgr (by simp); replace HB := HB.grown hgr (by have := HB.size; omega) (by simp); replace hcg1 := hg1.cell; replace hfg1 := hg1.frozen; replace hcg2 := hg2.cell; replace hfg2 := hg2.frozen; replace hcg3 := hg3.cell; replace hfg3 := hg3.frozen; clear hb hgr)
      | ((with_reducible refine gate_dst (N := 21) rfl ?_); refine wpList_load_row rfl _ _ rfl g1 rfl _ _ (0, 0) _ hg1 Tryd.underlying35 rfl rec_size ?_)
      | (go_at_call 49; clear m2; (with_reducible refine (Cc.out _ (HR.out.next HB) (hd.next HB)).mono ?_); rintro e W7 ⟨rfl, hb⟩; have hgr := grown_of_below hb; replace hd5 := hd5.kept hgr (by simp); replace hg1 := hg1.grown hgr (by simp); replace hg2 := hg2.grown hgr (by simp); replace hg3 := hg3.grown hgr (by simp); replace HB := HB.grown hgr (by have := HB.size; omega) (by simp); replace hcg1 := hg1.cell; replace hfg1 := hg1.frozen; replace hcg2 := hg2.cell; replace hfg2 := hg2.frozen; replace hcg3 := hg3.cell; replace hfg3 := hg3.frozen; clear hb hgr)
      | (go_at_call 33; (with_reducible refine (num_calls _ _).mono ?_); rintro e w1 ⟨rfl, rfl⟩))
    go_ret
    exact ⟨rfl, HB⟩

set_option maxHeartbeats 8000000 in
set_option maxRecDepth 100000 in
theorem liftBack_good (r q : Rec) (A B : Option Addr) (c d : Nat) (to : Int) (hf : r.Fits) (hfq : q.Fits) (hz : r.Name.size ≤ 1099511627776) (w : World) (hT : Tabs w) (ht : Tab w 2 waysL) (hR : RTabs w) (hd : RB w A r.Data) (he : RB w B q.Data)
    (hc : r.chk = 0) (h2 : r.V ≤ to) (h3 : to ≤ 3) :
    Calls Tryd.prog 7 #[.agg (r.cells A c), .agg (q.cells B d), .int .i64 to] w fun e w' => e = .returned (.bool true) ∧ Below w.heap.size w w' := by
  have HB := Below.refl w.heap.size w
  have HT := Lib.hid hT
  have Ht := Lib.hid ht
  have HR := Lib.hid hR
  clear hT ht hR
  obtain ⟨u1, u2⟩ := upE_of hc h2 h3
  obtain ⟨k1, k2, k3, k4, k5, k6⟩ := up_ok hc h2 h3
  have hv3 := ((chk_ok r).1 hc).1
  have s1 : decide (to < r.V) = false := by simp; omega
  have s2 : decide (3 < to) = false := by simp; omega
  have cu := fun w => up_calls r A c to hf w
  have cc := fun w => ref_check_of r 0 hc A c hz w
  have ck := fun A c w => ref_check_of (turnR r to) 0 k1 A c (valid_name k1) w
  have cd := fun A c w => down_calls (turnR r to) A c r.V (hf.turn to) w
  have d1 : downE (turnR r to) r.V = 0 := by rw [downE_of k1 (by omega) (by omega), k5]; rfl
  have d2 : downR (turnR r to) r.V = r := by rw [downR_of k1 (by omega) (by omega), k5, if_pos rfl, k6]
  rw [d1, d2] at cd
  rw [u1, u2] at cu
  have cq := fun w => up_calls q B d to hfq w
  have hfin : upE q to = 0 → q.V = r.V → turnR r to = upR q to → r = q := by
    intro e1 e2 e3
    have hcq : q.chk = 0 := by
      by_cases h : q.chk = 0
      · exact h
      · unfold upE at e1
        rw [if_pos h] at e1
        exact e1
    obtain ⟨_, u2'⟩ := upE_of hcq (v := to) (by omega) h3
    have := (up_ok hcq (to := to) (by omega) h3).2.2.2.2.2
    rw [← u2', ← e3, e2, k6] at this
    exact this
  have hul := (hf.turn to).data
  have hbl := (hfq.up to).data
  have hrl := hf.data
  have hql := hfq.data
  have p1 := int_bne_false k2
  have p2 := int_bne_false k3
  have p3 := int_bne_false k4
  generalize turnR r to = u at cu ck cd hfin hul p1 p2 p3
  generalize upR q to = b at cq hfin hbl
  generalize upE q to = g at cq hfin
  have Cu := Lib.hid cu
  have Cc := Lib.hid cc
  have Ck := Lib.hid ck
  have Cd := Lib.hid cd
  have Cq := Lib.hid cq
  have m1 : True := trivial
  have m2 : True := trivial
  have m3 : True := trivial
  have m4 : True := trivial
  clear cu cc ck cd cq u1 u2 k1 k2 k3 k4 k5 k6 d1 d2 hc h2 h3 hv3
  have key : ∀ gb vb x : Bool, (g != 0) = gb → (q.V != r.V) = vb → u.same b = x → Calls Tryd.prog 7 #[.agg (r.cells A c), .agg (q.cells B d), .int .i64 to] w fun e w' => e = .returned (.bool true) ∧ Below w.heap.size w w' := by
    intro gb vb x hg hv hx
    by_cases hall : gb = false ∧ vb = false ∧ x = true
    · obtain ⟨rfl, rfl, rfl⟩ := hall
      have hy : r.same q = true := Rec.same_true (hfin (by simpa using hg) (by simpa using hv) (Rec.same_iff.1 hx))
      clear hfin
      go_enter Tryd.func7, Tryd.ntmps7
      go_wp2_with (first
        | ((with_reducible refine gate_dst (N := 3) rfl ?_); refine ev_box rfl rfl (r.cells A c) rfl ?_; intro g1 W1 hg1 hsz hbn; have hgr := grown_of_below hbn; have zg1 : w.heap.size ≤ g1 := (by have := HB.size; omega); replace HB := HB.grown hgr (by have := HB.size; omega) (by simp); have hcg1 := hg1.cell; have hfg1 := hg1.frozen; clear hsz hbn hgr)
        | ((with_reducible refine gate_dst (N := 4) rfl ?_); refine ev_box rfl rfl (q.cells B d) rfl ?_; intro g2 W2 hg2 hsz hbn; have hgr := grown_of_below hbn; have ng1g2 : g1 ≠ g2 := (by have := hg1.lt; omega); have zg2 : w.heap.size ≤ g2 := (by have := HB.size; omega); replace hg1 := hg1.grown hgr (by simp); replace HB := HB.grown hgr (by have := HB.size; omega) (by simp); have hcg2 := hg2.cell; have hfg2 := hg2.frozen; replace hcg1 := hg1.cell; replace hfg1 := hg1.frozen; clear hsz hbn hgr)
        | ((with_reducible refine gate_dst (N := 15) rfl ?_); refine wpList_load_row rfl _ _ rfl g1 rfl _ _ (0, 0) _ hg1 Tryd.underlying35 rfl rec_size ?_)
        | (go_at_call 34; clear m1; (with_reducible refine (Cu.out _ (HT.out.next HB) (Ht.out.next HB) (hd.next HB)).mono ?_); rintro e W3 ⟨A5, c5, rfl, hd5, hb⟩; have hgr := grown_of_below hb; replace hg1 := hg1.grown hgr (by simp); replace hg2 := hg2.grown hgr (by simp); replace HB := HB.grown hgr (by have := HB.size; omega) (by simp); replace hcg1 := hg1.cell; replace hfg1 := hg1.frozen; replace hcg2 := hg2.cell; replace hfg2 := hg2.frozen; clear hb hgr)
        | ((with_reducible refine gate_dst (N := 7) rfl ?_); refine ev_alloc rfl rfl _ rec_zero ?_; intro g3 W4 hg3 hsz hbn; have hgr := grown_of_below hbn; have ng1g3 : g1 ≠ g3 := (by have := hg1.lt; omega); have ng2g3 : g2 ≠ g3 := (by have := hg2.lt; omega); replace hg3 : Blk W4 g3 _ (Rec.zero.cells none 0) := hg3; have zg3 : w.heap.size ≤ g3 := (by have := HB.size; omega); replace hd5 := hd5.kept hgr (by simp); replace hg1 := hg1.grown hgr (by simp); replace hg2 := hg2.grown hgr (by simp); replace HB := HB.grown hgr (by have := HB.size; omega) (by simp); have hcg3 := hg3.cell; have hfg3 := hg3.frozen; replace hcg1 := hg1.cell; replace hfg1 := hg1.frozen; replace hcg2 := hg2.cell; replace hfg2 := hg2.frozen; clear hsz hbn hgr)
        | ((with_reducible refine gate_store (p := 7) rfl ?_); refine ev_store_row (cs := u.cells A5 c5) rfl rfl rfl hg3 rfl rfl rec_size rfl (cells_one _ _ _) ?_; intro W5 hgn hgr; replace hd5 := hd5.kept hgr (RU.ne_blk hd5 hg3 (by decide)); replace hg1 := hg1.grown hgr (by intro e; injection e with e; omega); replace hg2 := hg2.grown hgr (by intro e; injection e with e; omega); replace HB := HB.grown hgr (by have := HB.size; omega) (by intro k e; injection e with e; omega); replace hg3 := hgn; replace hcg1 := hg1.cell; replace hfg1 := hg1.frozen; replace hcg2 := hg2.cell; replace hfg2 := hg2.frozen; replace hcg3 := hg3.cell; replace hfg3 := hg3.frozen; clear hgn hgr)
        | (go_at_call 48; (with_reducible refine (started_calls _ (HT.out.next HB) (Ht.out.next HB)).mono ?_); rintro e W6 ⟨rfl, hb⟩; have hgr := grown_of_below hb; replace hd5 := hd5.kept hgr (by simp); replace hg1 := hg1.grown hgr (by simp); replace hg2 := hg2.grown hgr (by simp); replace hg3 := hg3.grown hgr (by simp); replace HB := HB.grown hgr (by have := HB.size; omega) (by simp); replace hcg1 := hg1.cell; replace hfg1 := hg1.frozen; replace hcg2 := hg2.cell; replace hfg2 := hg2.frozen; replace hcg3 := hg3.cell; replace hfg3 := hg3.frozen; clear hb hgr)
        | ((with_reducible refine gate_dst (N := 21) rfl ?_); refine wpList_load_row rfl _ _ rfl g1 rfl _ _ (0, 0) _ hg1 Tryd.underlying35 rfl rec_size ?_)
        | (go_at_call 49; clear m2; (with_reducible refine (Cc.out _ (HR.out.next HB) (hd.next HB)).mono ?_); rintro e W7 ⟨rfl, hb⟩; have hgr := grown_of_below hb; replace hd5 := hd5.kept hgr (by simp); replace hg1 := hg1.grown hgr (by simp); replace hg2 := hg2.grown hgr (by simp); replace hg3 := hg3.grown hgr (by simp); replace HB := HB.grown hgr (by have := HB.size; omega) (by simp); replace hcg1 := hg1.cell; replace hfg1 := hg1.frozen; replace hcg2 := hg2.cell; replace hfg2 := hg2.frozen; replace hcg3 := hg3.cell; replace hfg3 := hg3.frozen; clear hb hgr)
        | ((with_reducible refine gate_dst (N := 68) rfl ?_); refine wpList_ungate ?_ ?_; focus (first | rfl | (simp [Region.wanted, yielded]; done)); refine wpList_load_row rfl _ _ rfl g3 rfl _ _ (0, 0) _ hg3 Tryd.underlying35 rfl rec_size ?_)
        | (go_at_call 49; (with_reducible refine (Ck.out _ _ _ (HR.out.next HB) hd5.rb).mono ?_); rintro e W8 ⟨rfl, hb⟩; have hgr := grown_of_below hb; replace hd5 := hd5.kept hgr (by simp); replace hg1 := hg1.grown hgr (by simp); replace hg2 := hg2.grown hgr (by simp); replace hg3 := hg3.grown hgr (by simp); replace HB := HB.grown hgr (by have := HB.size; omega) (by simp); replace hcg1 := hg1.cell; replace hfg1 := hg1.frozen; replace hcg2 := hg2.cell; replace hfg2 := hg2.frozen; replace hcg3 := hg3.cell; replace hfg3 := hg3.frozen; clear hb hgr)
        | (go_at_call 33; (with_reducible refine (num_calls _ _).mono ?_); rintro e w1 ⟨rfl, rfl⟩)
        | ((with_reducible refine gate_dst (N := 73) rfl ?_); refine wpList_load_row rfl _ _ rfl g3 rfl _ _ (0, 0) _ hg3 Tryd.underlying35 rfl rec_size ?_)
        | (go_at_call 50; (with_reducible refine (Cd.out _ _ _ (HT.out.next HB) (Ht.out.next HB) hd5.rb).mono ?_); rintro e W9 ⟨A6, c6, rfl, hd6, hb⟩; have hgr := grown_of_below hb; replace hd5 := hd5.kept hgr (by simp); replace hg1 := hg1.grown hgr (by simp); replace hg2 := hg2.grown hgr (by simp); replace hg3 := hg3.grown hgr (by simp); replace HB := HB.grown hgr (by have := HB.size; omega) (by simp); replace hcg1 := hg1.cell; replace hfg1 := hg1.frozen; replace hcg2 := hg2.cell; replace hfg2 := hg2.frozen; replace hcg3 := hg3.cell; replace hfg3 := hg3.frozen; clear hb hgr)
        | ((with_reducible refine gate_dst (N := 10) rfl ?_); refine ev_alloc rfl rfl _ rec_zero ?_; intro g4 W10 hg4 hsz hbn; have hgr := grown_of_below hbn; have ng1g4 : g1 ≠ g4 := (by have := hg1.lt; omega); have ng2g4 : g2 ≠ g4 := (by have := hg2.lt; omega); have ng3g4 : g3 ≠ g4 := (by have := hg3.lt; omega); replace hg4 : Blk W10 g4 _ (Rec.zero.cells none 0) := hg4; have zg4 : w.heap.size ≤ g4 := (by have := HB.size; omega); replace hd6 := hd6.kept hgr (by simp); replace hd5 := hd5.kept hgr (by simp); replace hg1 := hg1.grown hgr (by simp); replace hg2 := hg2.grown hgr (by simp); replace hg3 := hg3.grown hgr (by simp); replace HB := HB.grown hgr (by have := HB.size; omega) (by simp); have hcg4 := hg4.cell; have hfg4 := hg4.frozen; replace hcg1 := hg1.cell; replace hfg1 := hg1.frozen; replace hcg2 := hg2.cell; replace hfg2 := hg2.frozen; replace hcg3 := hg3.cell; replace hfg3 := hg3.frozen; clear hsz hbn hgr)
        | ((with_reducible refine gate_store (p := 10) rfl ?_); refine ev_store_row (cs := r.cells A6 c6) rfl rfl rfl hg4 rfl rfl rec_size rfl (cells_one _ _ _) ?_; intro W11 hgn hgr; replace hd6 := hd6.kept hgr (RU.ne_blk hd6 hg4 (by decide)); replace hd5 := hd5.kept hgr (RU.ne_blk hd5 hg4 (by decide)); replace hg1 := hg1.grown hgr (by intro e; injection e with e; omega); replace hg2 := hg2.grown hgr (by intro e; injection e with e; omega); replace hg3 := hg3.grown hgr (by intro e; injection e with e; omega); replace HB := HB.grown hgr (by have := HB.size; omega) (by intro k e; injection e with e; omega); replace hg4 := hgn; replace hcg1 := hg1.cell; replace hfg1 := hg1.frozen; replace hcg2 := hg2.cell; replace hfg2 := hg2.frozen; replace hcg3 := hg3.cell; replace hfg3 := hg3.frozen; replace hcg4 := hg4.cell; replace hfg4 := hg4.frozen; clear hgn hgr)
        | ((with_reducible refine gate_dst (N := 83) rfl ?_); refine wpList_ungate ?_ ?_; focus (first | rfl | (simp [Region.wanted, yielded]; done)); refine wpList_load_row rfl _ _ rfl g4 rfl _ _ (0, 0) _ hg4 Tryd.underlying35 rfl rec_size ?_)
        | ((with_reducible refine gate_dst (N := 84) rfl ?_); refine wpList_ungate ?_ ?_; focus (first | rfl | (simp [Region.wanted, yielded]; done)); refine wpList_load_row rfl _ _ rfl g1 rfl _ _ (0, 0) _ hg1 Tryd.underlying35 rfl rec_size ?_)
        | (go_at_call 35; clear m3; (with_reducible refine (same_later r _ _ _ _ _ hd6.rb (hd.next HB) hrl).mono ?_); rintro e W12 ⟨rfl, hb⟩; have hgr := grown_of_below hb; replace hd6 := hd6.kept hgr (by simp); replace hd5 := hd5.kept hgr (by simp); replace hg1 := hg1.grown hgr (by simp); replace hg2 := hg2.grown hgr (by simp); replace hg3 := hg3.grown hgr (by simp); replace hg4 := hg4.grown hgr (by simp); replace HB := HB.grown hgr (by have := HB.size; omega) (by simp); replace hcg1 := hg1.cell; replace hfg1 := hg1.frozen; replace hcg2 := hg2.cell; replace hfg2 := hg2.frozen; replace hcg3 := hg3.cell; replace hfg3 := hg3.frozen; replace hcg4 := hg4.cell; replace hfg4 := hg4.frozen; clear hb hgr)
        | ((with_reducible refine gate_dst (N := 89) rfl ?_); refine wpList_load_row rfl _ _ rfl g2 rfl _ _ (0, 0) _ hg2 Tryd.underlying35 rfl rec_size ?_)
        | (go_at_call 34; (with_reducible refine (Cq.out _ (HT.out.next HB) (Ht.out.next HB) (he.next HB)).mono ?_); rintro e W13 ⟨A7, c7, rfl, hd7, hb⟩; have hgr := grown_of_below hb; replace hd6 := hd6.kept hgr (by simp); replace hd5 := hd5.kept hgr (by simp); replace hg1 := hg1.grown hgr (by simp); replace hg2 := hg2.grown hgr (by simp); replace hg3 := hg3.grown hgr (by simp); replace hg4 := hg4.grown hgr (by simp); replace HB := HB.grown hgr (by have := HB.size; omega) (by simp); replace hcg1 := hg1.cell; replace hfg1 := hg1.frozen; replace hcg2 := hg2.cell; replace hfg2 := hg2.frozen; replace hcg3 := hg3.cell; replace hfg3 := hg3.frozen; replace hcg4 := hg4.cell; replace hfg4 := hg4.frozen; clear hb hgr)
        | ((with_reducible refine gate_dst (N := 12) rfl ?_); refine ev_alloc rfl rfl _ rec_zero ?_; intro g5 W14 hg5 hsz hbn; have hgr := grown_of_below hbn; have ng1g5 : g1 ≠ g5 := (by have := hg1.lt; omega); have ng2g5 : g2 ≠ g5 := (by have := hg2.lt; omega); have ng3g5 : g3 ≠ g5 := (by have := hg3.lt; omega); have ng4g5 : g4 ≠ g5 := (by have := hg4.lt; omega); replace hg5 : Blk W14 g5 _ (Rec.zero.cells none 0) := hg5; have zg5 : w.heap.size ≤ g5 := (by have := HB.size; omega); replace hd7 := hd7.kept hgr (by simp); replace hd6 := hd6.kept hgr (by simp); replace hd5 := hd5.kept hgr (by simp); replace hg1 := hg1.grown hgr (by simp); replace hg2 := hg2.grown hgr (by simp); replace hg3 := hg3.grown hgr (by simp); replace hg4 := hg4.grown hgr (by simp); replace HB := HB.grown hgr (by have := HB.size; omega) (by simp); have hcg5 := hg5.cell; have hfg5 := hg5.frozen; replace hcg1 := hg1.cell; replace hfg1 := hg1.frozen; replace hcg2 := hg2.cell; replace hfg2 := hg2.frozen; replace hcg3 := hg3.cell; replace hfg3 := hg3.frozen; replace hcg4 := hg4.cell; replace hfg4 := hg4.frozen; clear hsz hbn hgr)
        | ((with_reducible refine gate_store (p := 12) rfl ?_); refine ev_store_row (cs := b.cells A7 c7) rfl rfl rfl hg5 rfl rfl rec_size rfl (cells_one _ _ _) ?_; intro W15 hgn hgr; replace hd7 := hd7.kept hgr (RU.ne_blk hd7 hg5 (by decide)); replace hd6 := hd6.kept hgr (RU.ne_blk hd6 hg5 (by decide)); replace hd5 := hd5.kept hgr (RU.ne_blk hd5 hg5 (by decide)); replace hg1 := hg1.grown hgr (by intro e; injection e with e; omega); replace hg2 := hg2.grown hgr (by intro e; injection e with e; omega); replace hg3 := hg3.grown hgr (by intro e; injection e with e; omega); replace hg4 := hg4.grown hgr (by intro e; injection e with e; omega); replace HB := HB.grown hgr (by have := HB.size; omega) (by intro k e; injection e with e; omega); replace hg5 := hgn; replace hcg1 := hg1.cell; replace hfg1 := hg1.frozen; replace hcg2 := hg2.cell; replace hfg2 := hg2.frozen; replace hcg3 := hg3.cell; replace hfg3 := hg3.frozen; replace hcg4 := hg4.cell; replace hfg4 := hg4.frozen; replace hcg5 := hg5.cell; replace hfg5 := hg5.frozen; clear hgn hgr)
        | ((with_reducible refine gate_dst (N := 105) rfl ?_); refine wpList_ungate ?_ ?_; focus (first | rfl | (simp [Region.wanted, yielded]; done)); refine wpList_load_row rfl _ _ rfl g3 rfl _ _ (0, 0) _ hg3 Tryd.underlying35 rfl rec_size ?_)
        | ((with_reducible refine gate_dst (N := 106) rfl ?_); refine wpList_ungate ?_ ?_; focus (first | rfl | (simp [Region.wanted, yielded]; done)); refine wpList_load_row rfl _ _ rfl g5 rfl _ _ (0, 0) _ hg5 Tryd.underlying35 rfl rec_size ?_)
        | (go_at_call 35; clear m4; (with_reducible refine (ref_same u b _ hx _ _ _ _ _ hd5.rb hd7.rb hul hbl).mono ?_); rintro e W16 ⟨rfl, hb⟩; have hgr := grown_of_below hb; replace hd7 := hd7.kept hgr (by simp); replace hd6 := hd6.kept hgr (by simp); replace hd5 := hd5.kept hgr (by simp); replace hg1 := hg1.grown hgr (by simp); replace hg2 := hg2.grown hgr (by simp); replace hg3 := hg3.grown hgr (by simp); replace hg4 := hg4.grown hgr (by simp); replace hg5 := hg5.grown hgr (by simp); replace HB := HB.grown hgr (by have := HB.size; omega) (by simp); replace hcg1 := hg1.cell; replace hfg1 := hg1.frozen; replace hcg2 := hg2.cell; replace hfg2 := hg2.frozen; replace hcg3 := hg3.cell; replace hfg3 := hg3.frozen; replace hcg4 := hg4.cell; replace hfg4 := hg4.frozen; replace hcg5 := hg5.cell; replace hfg5 := hg5.frozen; clear hb hgr)
        | ((with_reducible refine gate_dst (N := 110) rfl ?_); refine wpList_load_row rfl _ _ rfl g1 rfl _ _ (0, 0) _ hg1 Tryd.underlying35 rfl rec_size ?_)
        | ((with_reducible refine gate_dst (N := 111) rfl ?_); refine wpList_load_row rfl _ _ rfl g2 rfl _ _ (0, 0) _ hg2 Tryd.underlying35 rfl rec_size ?_)
        | (go_at_call 35; (with_reducible refine (ref_same r q _ hy _ _ _ _ _ (hd.next HB) (he.next HB) hrl hql).mono ?_); rintro e W17 ⟨rfl, hb⟩; have hgr := grown_of_below hb; replace hd7 := hd7.kept hgr (by simp); replace hd6 := hd6.kept hgr (by simp); replace hd5 := hd5.kept hgr (by simp); replace hg1 := hg1.grown hgr (by simp); replace hg2 := hg2.grown hgr (by simp); replace hg3 := hg3.grown hgr (by simp); replace hg4 := hg4.grown hgr (by simp); replace hg5 := hg5.grown hgr (by simp); replace HB := HB.grown hgr (by have := HB.size; omega) (by simp); replace hcg1 := hg1.cell; replace hfg1 := hg1.frozen; replace hcg2 := hg2.cell; replace hfg2 := hg2.frozen; replace hcg3 := hg3.cell; replace hfg3 := hg3.frozen; replace hcg4 := hg4.cell; replace hfg4 := hg4.frozen; replace hcg5 := hg5.cell; replace hfg5 := hg5.frozen; clear hb hgr))
      go_ret
      exact ⟨rfl, HB⟩
    · clear hfin
      cases gb <;> cases vb <;> cases x
      all_goals first
        | (exact absurd ⟨rfl, rfl, rfl⟩ hall)
        | skip
      all_goals
        clear hall
        go_enter Tryd.func7, Tryd.ntmps7
        go_wp2_with (first
          | ((with_reducible refine gate_dst (N := 3) rfl ?_); refine ev_box rfl rfl (r.cells A c) rfl ?_; intro g1 W1 hg1 hsz hbn; have hgr := grown_of_below hbn; have zg1 : w.heap.size ≤ g1 := (by have := HB.size; omega); replace HB := HB.grown hgr (by have := HB.size; omega) (by simp); have hcg1 := hg1.cell; have hfg1 := hg1.frozen; clear hsz hbn hgr)
          | ((with_reducible refine gate_dst (N := 4) rfl ?_); refine ev_box rfl rfl (q.cells B d) rfl ?_; intro g2 W2 hg2 hsz hbn; have hgr := grown_of_below hbn; have ng1g2 : g1 ≠ g2 := (by have := hg1.lt; omega); have zg2 : w.heap.size ≤ g2 := (by have := HB.size; omega); replace hg1 := hg1.grown hgr (by simp); replace HB := HB.grown hgr (by have := HB.size; omega) (by simp); have hcg2 := hg2.cell; have hfg2 := hg2.frozen; replace hcg1 := hg1.cell; replace hfg1 := hg1.frozen; clear hsz hbn hgr)
          | ((with_reducible refine gate_dst (N := 15) rfl ?_); refine wpList_load_row rfl _ _ rfl g1 rfl _ _ (0, 0) _ hg1 Tryd.underlying35 rfl rec_size ?_)
          | (go_at_call 34; clear m1; (with_reducible refine (Cu.out _ (HT.out.next HB) (Ht.out.next HB) (hd.next HB)).mono ?_); rintro e W3 ⟨A5, c5, rfl, hd5, hb⟩; have hgr := grown_of_below hb; replace hg1 := hg1.grown hgr (by simp); replace hg2 := hg2.grown hgr (by simp); replace HB := HB.grown hgr (by have := HB.size; omega) (by simp); replace hcg1 := hg1.cell; replace hfg1 := hg1.frozen; replace hcg2 := hg2.cell; replace hfg2 := hg2.frozen; clear hb hgr)
          | ((with_reducible refine gate_dst (N := 7) rfl ?_); refine ev_alloc rfl rfl _ rec_zero ?_; intro g3 W4 hg3 hsz hbn; have hgr := grown_of_below hbn; have ng1g3 : g1 ≠ g3 := (by have := hg1.lt; omega); have ng2g3 : g2 ≠ g3 := (by have := hg2.lt; omega); replace hg3 : Blk W4 g3 _ (Rec.zero.cells none 0) := hg3; have zg3 : w.heap.size ≤ g3 := (by have := HB.size; omega); replace hd5 := hd5.kept hgr (by simp); replace hg1 := hg1.grown hgr (by simp); replace hg2 := hg2.grown hgr (by simp); replace HB := HB.grown hgr (by have := HB.size; omega) (by simp); have hcg3 := hg3.cell; have hfg3 := hg3.frozen; replace hcg1 := hg1.cell; replace hfg1 := hg1.frozen; replace hcg2 := hg2.cell; replace hfg2 := hg2.frozen; clear hsz hbn hgr)
          | ((with_reducible refine gate_store (p := 7) rfl ?_); refine ev_store_row (cs := u.cells A5 c5) rfl rfl rfl hg3 rfl rfl rec_size rfl (cells_one _ _ _) ?_; intro W5 hgn hgr; replace hd5 := hd5.kept hgr (RU.ne_blk hd5 hg3 (by decide)); replace hg1 := hg1.grown hgr (by intro e; injection e with e; omega); replace hg2 := hg2.grown hgr (by intro e; injection e with e; omega); replace HB := HB.grown hgr (by have := HB.size; omega) (by intro k e; injection e with e; omega); replace hg3 := hgn; replace hcg1 := hg1.cell; replace hfg1 := hg1.frozen; replace hcg2 := hg2.cell; replace hfg2 := hg2.frozen; replace hcg3 := hg3.cell; replace hfg3 := hg3.frozen; clear hgn hgr)
          | (go_at_call 48; (with_reducible refine (started_calls _ (HT.out.next HB) (Ht.out.next HB)).mono ?_); rintro e W6 ⟨rfl, hb⟩; have hgr := grown_of_below hb; replace hd5 := hd5.kept hgr (by simp); replace hg1 := hg1.grown hgr (by simp); replace hg2 := hg2.grown hgr (by simp); replace hg3 := hg3.grown hgr (by simp); replace HB := HB.grown hgr (by have := HB.size; omega) (by simp); replace hcg1 := hg1.cell; replace hfg1 := hg1.frozen; replace hcg2 := hg2.cell; replace hfg2 := hg2.frozen; replace hcg3 := hg3.cell; replace hfg3 := hg3.frozen; clear hb hgr)
          | ((with_reducible refine gate_dst (N := 21) rfl ?_); refine wpList_load_row rfl _ _ rfl g1 rfl _ _ (0, 0) _ hg1 Tryd.underlying35 rfl rec_size ?_)
          | (go_at_call 49; clear m2; (with_reducible refine (Cc.out _ (HR.out.next HB) (hd.next HB)).mono ?_); rintro e W7 ⟨rfl, hb⟩; have hgr := grown_of_below hb; replace hd5 := hd5.kept hgr (by simp); replace hg1 := hg1.grown hgr (by simp); replace hg2 := hg2.grown hgr (by simp); replace hg3 := hg3.grown hgr (by simp); replace HB := HB.grown hgr (by have := HB.size; omega) (by simp); replace hcg1 := hg1.cell; replace hfg1 := hg1.frozen; replace hcg2 := hg2.cell; replace hfg2 := hg2.frozen; replace hcg3 := hg3.cell; replace hfg3 := hg3.frozen; clear hb hgr)
          | ((with_reducible refine gate_dst (N := 68) rfl ?_); refine wpList_ungate ?_ ?_; focus (first | rfl | (simp [Region.wanted, yielded]; done)); refine wpList_load_row rfl _ _ rfl g3 rfl _ _ (0, 0) _ hg3 Tryd.underlying35 rfl rec_size ?_)
          | (go_at_call 49; (with_reducible refine (Ck.out _ _ _ (HR.out.next HB) hd5.rb).mono ?_); rintro e W8 ⟨rfl, hb⟩; have hgr := grown_of_below hb; replace hd5 := hd5.kept hgr (by simp); replace hg1 := hg1.grown hgr (by simp); replace hg2 := hg2.grown hgr (by simp); replace hg3 := hg3.grown hgr (by simp); replace HB := HB.grown hgr (by have := HB.size; omega) (by simp); replace hcg1 := hg1.cell; replace hfg1 := hg1.frozen; replace hcg2 := hg2.cell; replace hfg2 := hg2.frozen; replace hcg3 := hg3.cell; replace hfg3 := hg3.frozen; clear hb hgr)
          | (go_at_call 33; (with_reducible refine (num_calls _ _).mono ?_); rintro e w1 ⟨rfl, rfl⟩)
          | ((with_reducible refine gate_dst (N := 73) rfl ?_); refine wpList_load_row rfl _ _ rfl g3 rfl _ _ (0, 0) _ hg3 Tryd.underlying35 rfl rec_size ?_)
          | (go_at_call 50; (with_reducible refine (Cd.out _ _ _ (HT.out.next HB) (Ht.out.next HB) hd5.rb).mono ?_); rintro e W9 ⟨A6, c6, rfl, hd6, hb⟩; have hgr := grown_of_below hb; replace hd5 := hd5.kept hgr (by simp); replace hg1 := hg1.grown hgr (by simp); replace hg2 := hg2.grown hgr (by simp); replace hg3 := hg3.grown hgr (by simp); replace HB := HB.grown hgr (by have := HB.size; omega) (by simp); replace hcg1 := hg1.cell; replace hfg1 := hg1.frozen; replace hcg2 := hg2.cell; replace hfg2 := hg2.frozen; replace hcg3 := hg3.cell; replace hfg3 := hg3.frozen; clear hb hgr)
          | ((with_reducible refine gate_dst (N := 10) rfl ?_); refine ev_alloc rfl rfl _ rec_zero ?_; intro g4 W10 hg4 hsz hbn; have hgr := grown_of_below hbn; have ng1g4 : g1 ≠ g4 := (by have := hg1.lt; omega); have ng2g4 : g2 ≠ g4 := (by have := hg2.lt; omega); have ng3g4 : g3 ≠ g4 := (by have := hg3.lt; omega); replace hg4 : Blk W10 g4 _ (Rec.zero.cells none 0) := hg4; have zg4 : w.heap.size ≤ g4 := (by have := HB.size; omega); replace hd6 := hd6.kept hgr (by simp); replace hd5 := hd5.kept hgr (by simp); replace hg1 := hg1.grown hgr (by simp); replace hg2 := hg2.grown hgr (by simp); replace hg3 := hg3.grown hgr (by simp); replace HB := HB.grown hgr (by have := HB.size; omega) (by simp); have hcg4 := hg4.cell; have hfg4 := hg4.frozen; replace hcg1 := hg1.cell; replace hfg1 := hg1.frozen; replace hcg2 := hg2.cell; replace hfg2 := hg2.frozen; replace hcg3 := hg3.cell; replace hfg3 := hg3.frozen; clear hsz hbn hgr)
          | ((with_reducible refine gate_store (p := 10) rfl ?_); refine ev_store_row (cs := r.cells A6 c6) rfl rfl rfl hg4 rfl rfl rec_size rfl (cells_one _ _ _) ?_; intro W11 hgn hgr; replace hd6 := hd6.kept hgr (RU.ne_blk hd6 hg4 (by decide)); replace hd5 := hd5.kept hgr (RU.ne_blk hd5 hg4 (by decide)); replace hg1 := hg1.grown hgr (by intro e; injection e with e; omega); replace hg2 := hg2.grown hgr (by intro e; injection e with e; omega); replace hg3 := hg3.grown hgr (by intro e; injection e with e; omega); replace HB := HB.grown hgr (by have := HB.size; omega) (by intro k e; injection e with e; omega); replace hg4 := hgn; replace hcg1 := hg1.cell; replace hfg1 := hg1.frozen; replace hcg2 := hg2.cell; replace hfg2 := hg2.frozen; replace hcg3 := hg3.cell; replace hfg3 := hg3.frozen; replace hcg4 := hg4.cell; replace hfg4 := hg4.frozen; clear hgn hgr)
          | ((with_reducible refine gate_dst (N := 83) rfl ?_); refine wpList_ungate ?_ ?_; focus (first | rfl | (simp [Region.wanted, yielded]; done)); refine wpList_load_row rfl _ _ rfl g4 rfl _ _ (0, 0) _ hg4 Tryd.underlying35 rfl rec_size ?_)
          | ((with_reducible refine gate_dst (N := 84) rfl ?_); refine wpList_ungate ?_ ?_; focus (first | rfl | (simp [Region.wanted, yielded]; done)); refine wpList_load_row rfl _ _ rfl g1 rfl _ _ (0, 0) _ hg1 Tryd.underlying35 rfl rec_size ?_)
          | (go_at_call 35; clear m3; (with_reducible refine (same_later r _ _ _ _ _ hd6.rb (hd.next HB) hrl).mono ?_); rintro e W12 ⟨rfl, hb⟩; have hgr := grown_of_below hb; replace hd6 := hd6.kept hgr (by simp); replace hd5 := hd5.kept hgr (by simp); replace hg1 := hg1.grown hgr (by simp); replace hg2 := hg2.grown hgr (by simp); replace hg3 := hg3.grown hgr (by simp); replace hg4 := hg4.grown hgr (by simp); replace HB := HB.grown hgr (by have := HB.size; omega) (by simp); replace hcg1 := hg1.cell; replace hfg1 := hg1.frozen; replace hcg2 := hg2.cell; replace hfg2 := hg2.frozen; replace hcg3 := hg3.cell; replace hfg3 := hg3.frozen; replace hcg4 := hg4.cell; replace hfg4 := hg4.frozen; clear hb hgr)
          | ((with_reducible refine gate_dst (N := 89) rfl ?_); refine wpList_load_row rfl _ _ rfl g2 rfl _ _ (0, 0) _ hg2 Tryd.underlying35 rfl rec_size ?_)
          | (go_at_call 34; (with_reducible refine (Cq.out _ (HT.out.next HB) (Ht.out.next HB) (he.next HB)).mono ?_); rintro e W13 ⟨A7, c7, rfl, hd7, hb⟩; have hgr := grown_of_below hb; replace hd6 := hd6.kept hgr (by simp); replace hd5 := hd5.kept hgr (by simp); replace hg1 := hg1.grown hgr (by simp); replace hg2 := hg2.grown hgr (by simp); replace hg3 := hg3.grown hgr (by simp); replace hg4 := hg4.grown hgr (by simp); replace HB := HB.grown hgr (by have := HB.size; omega) (by simp); replace hcg1 := hg1.cell; replace hfg1 := hg1.frozen; replace hcg2 := hg2.cell; replace hfg2 := hg2.frozen; replace hcg3 := hg3.cell; replace hfg3 := hg3.frozen; replace hcg4 := hg4.cell; replace hfg4 := hg4.frozen; clear hb hgr)
          | ((with_reducible refine gate_dst (N := 12) rfl ?_); refine ev_alloc rfl rfl _ rec_zero ?_; intro g5 W14 hg5 hsz hbn; have hgr := grown_of_below hbn; have ng1g5 : g1 ≠ g5 := (by have := hg1.lt; omega); have ng2g5 : g2 ≠ g5 := (by have := hg2.lt; omega); have ng3g5 : g3 ≠ g5 := (by have := hg3.lt; omega); have ng4g5 : g4 ≠ g5 := (by have := hg4.lt; omega); replace hg5 : Blk W14 g5 _ (Rec.zero.cells none 0) := hg5; have zg5 : w.heap.size ≤ g5 := (by have := HB.size; omega); replace hd7 := hd7.kept hgr (by simp); replace hd6 := hd6.kept hgr (by simp); replace hd5 := hd5.kept hgr (by simp); replace hg1 := hg1.grown hgr (by simp); replace hg2 := hg2.grown hgr (by simp); replace hg3 := hg3.grown hgr (by simp); replace hg4 := hg4.grown hgr (by simp); replace HB := HB.grown hgr (by have := HB.size; omega) (by simp); have hcg5 := hg5.cell; have hfg5 := hg5.frozen; replace hcg1 := hg1.cell; replace hfg1 := hg1.frozen; replace hcg2 := hg2.cell; replace hfg2 := hg2.frozen; replace hcg3 := hg3.cell; replace hfg3 := hg3.frozen; replace hcg4 := hg4.cell; replace hfg4 := hg4.frozen; clear hsz hbn hgr)
          | ((with_reducible refine gate_store (p := 12) rfl ?_); refine ev_store_row (cs := b.cells A7 c7) rfl rfl rfl hg5 rfl rfl rec_size rfl (cells_one _ _ _) ?_; intro W15 hgn hgr; replace hd7 := hd7.kept hgr (RU.ne_blk hd7 hg5 (by decide)); replace hd6 := hd6.kept hgr (RU.ne_blk hd6 hg5 (by decide)); replace hd5 := hd5.kept hgr (RU.ne_blk hd5 hg5 (by decide)); replace hg1 := hg1.grown hgr (by intro e; injection e with e; omega); replace hg2 := hg2.grown hgr (by intro e; injection e with e; omega); replace hg3 := hg3.grown hgr (by intro e; injection e with e; omega); replace hg4 := hg4.grown hgr (by intro e; injection e with e; omega); replace HB := HB.grown hgr (by have := HB.size; omega) (by intro k e; injection e with e; omega); replace hg5 := hgn; replace hcg1 := hg1.cell; replace hfg1 := hg1.frozen; replace hcg2 := hg2.cell; replace hfg2 := hg2.frozen; replace hcg3 := hg3.cell; replace hfg3 := hg3.frozen; replace hcg4 := hg4.cell; replace hfg4 := hg4.frozen; replace hcg5 := hg5.cell; replace hfg5 := hg5.frozen; clear hgn hgr)
          | ((with_reducible refine gate_dst (N := 105) rfl ?_); refine wpList_ungate ?_ ?_; focus (first | rfl | (simp [Region.wanted, yielded]; done)); refine wpList_load_row rfl _ _ rfl g3 rfl _ _ (0, 0) _ hg3 Tryd.underlying35 rfl rec_size ?_)
          | ((with_reducible refine gate_dst (N := 106) rfl ?_); refine wpList_ungate ?_ ?_; focus (first | rfl | (simp [Region.wanted, yielded]; done)); refine wpList_load_row rfl _ _ rfl g5 rfl _ _ (0, 0) _ hg5 Tryd.underlying35 rfl rec_size ?_)
          | (go_at_call 35; clear m4; (with_reducible refine (ref_same u b _ hx _ _ _ _ _ hd5.rb hd7.rb hul hbl).mono ?_); rintro e W16 ⟨rfl, hb⟩; have hgr := grown_of_below hb; replace hd7 := hd7.kept hgr (by simp); replace hd6 := hd6.kept hgr (by simp); replace hd5 := hd5.kept hgr (by simp); replace hg1 := hg1.grown hgr (by simp); replace hg2 := hg2.grown hgr (by simp); replace hg3 := hg3.grown hgr (by simp); replace hg4 := hg4.grown hgr (by simp); replace hg5 := hg5.grown hgr (by simp); replace HB := HB.grown hgr (by have := HB.size; omega) (by simp); replace hcg1 := hg1.cell; replace hfg1 := hg1.frozen; replace hcg2 := hg2.cell; replace hfg2 := hg2.frozen; replace hcg3 := hg3.cell; replace hfg3 := hg3.frozen; replace hcg4 := hg4.cell; replace hfg4 := hg4.frozen; replace hcg5 := hg5.cell; replace hfg5 := hg5.frozen; clear hb hgr))
        go_ret
        exact ⟨rfl, HB⟩
  exact key _ _ _ rfl rfl rfl
theorem liftBack_calls (r q : Rec) (A B : Option Addr) (c d : Nat) (to : Int) (hf : r.Fits) (hfq : q.Fits) (hz : r.Name.size ≤ 1099511627776) (w : World) (hT : Tabs w) (ht : Tab w 2 waysL) (hR : RTabs w) (hd : RB w A r.Data) (he : RB w B q.Data) :
    Calls Tryd.prog 7 #[.agg (r.cells A c), .agg (q.cells B d), .int .i64 to] w fun e w' => e = .returned (.bool true) ∧ Below w.heap.size w w' := by
  by_cases h : r.chk = 0 ∧ r.V ≤ to ∧ to ≤ 3
  · exact liftBack_good r q A B c d to hf hfq hz w hT ht hR hd he h.1 h.2.1 h.2.2
  · refine liftBack_bad r q A B c d to hf hz w hT ht hR hd _ _ _ rfl rfl rfl ?_
    by_cases h1 : r.chk = 0
    · by_cases h2 : to < r.V
      · simp [h2]
      · have : 3 < to := by omega
        simp [this]
    · simp [h1]
end Go.Proofs.YtjhiohjpkdjkoaaDoor
