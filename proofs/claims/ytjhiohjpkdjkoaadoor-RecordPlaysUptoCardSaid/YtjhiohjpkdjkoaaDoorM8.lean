/-
  The laws RecordChecks, RecordLooks, RecordWrites; how a script of layer 3 lies and reads; the walk of the law RecordPlays.
-/
import Derived.Test.YtjhiohjpkdjkoaaDoorW7
import Derived.Test.YtjhiohjpkdjkoaaDoorW5s
import Derived.Test.YtjhiohjpkdjkoaaDoorG2
import Derived.Test.YtjhiohjpkdjkoaaDoorR2
import Derived.StillTailTactics
import Derived.Test.YtjhiohjpkdjkoaaDoorM7
import Derived.Test.YtjhiohjpkdjkoaaDoorF3
import Derived.Test.YtjhiohjpkdjkoaaDoorFU
import Derived.Test.YtjhiohjpkdjkoaaDoorFT2
set_option linter.unusedVariables false
set_option linter.unusedSimpArgs false
namespace Go.Proofs.YtjhiohjpkdjkoaaDoor
open Go.RowKit
attribute [local go_sem] Rec.size_ Rec.g0 Rec.g1 Rec.g2 Rec.g3 Rec.g4 Rec.g5 Rec.g6 Rec.g7 Rec.g8 Rec.g9 Rec.g10 Rec.g11 Rec.fold Rec.same_self

set_option maxHeartbeats 1000000 in
set_option maxRecDepth 100000 in
theorem encode_bad (r : Rec) (A : Option Addr) (c : Nat) (k : Int) (hk : r.chk = k) (h0 : k ≠ 0) (hf : r.Fits) (w : World) (hT : Tabs w) (hd : RB w A r.Data) :
    Calls Tryd.prog 76 #[.agg (r.cells A c)] w fun e w' => e = .returned (.tuple #[.slice none 0 0, .int .i64 k]) ∧ Below w.heap.size w w' := by
  have HB := Below.refl w.heap.size w
  have HT := Lib.hid hT
  have t1 := int_bne_true h0
  have cc := fun w => check_calls r A c hf w
  rw [hk] at cc
  have Cc := Lib.hid cc
  clear hT cc hk h0
  go_enter Tryd.func76, Tryd.ntmps76
  go_wp2_with (first
    | ((with_reducible refine gate_dst (N := 1) rfl ?_); refine ev_box rfl rfl (r.cells A c) rfl ?_; intro g1 W1 hg1 hsz hbn; have hgr := grown_of_below hbn; have zg1 : w.heap.size ≤ g1 := (by have := HB.size; omega); replace HB := HB.grown hgr (by have := HB.size; omega) (by simp); have hcg1 := hg1.cell; have hfg1 := hg1.frozen; clear hsz hbn hgr)
    | ((with_reducible refine gate_dst (N := 7) rfl ?_); refine wpList_load_row rfl _ _ rfl g1 rfl _ _ (0, 0) _ hg1 Tryd.underlying35 rfl rec_size ?_)
    | (go_at_call 75; (with_reducible refine (Cc.out _ (HT.out.next HB) (hd.next HB)).mono ?_); rintro e W2 ⟨rfl, hb⟩; have hgr := grown_of_below hb; replace hg1 := hg1.grown hgr (by simp); replace HB := HB.grown hgr (by have := HB.size; omega) (by simp); replace hcg1 := hg1.cell; replace hfg1 := hg1.frozen; clear hb hgr))
  go_ret2
  exact ⟨rfl, HB⟩
set_option maxRecDepth 100000 in
theorem size_bad (r : Rec) (A : Option Addr) (c : Nat) (k : Int) (hk : r.chk = k) (h0 : k ≠ 0) (hf : r.Fits) (w : World) (hT : Tabs w) (hd : RB w A r.Data) :
    Calls Tryd.prog 77 #[.agg (r.cells A c)] w fun e w' => e = .returned (.tuple #[.int .i64 0, .int .i64 k]) ∧ Below w.heap.size w w' := by
  have HB := Below.refl w.heap.size w
  have HT := Lib.hid hT
  have ce := fun w => encode_bad r A c k hk h0 hf w
  have Ce := Lib.hid ce
  clear hT ce hk h0
  go_enter Tryd.func77, Tryd.ntmps77
  go_wp2_with (first
    | ((with_reducible refine gate_dst (N := 1) rfl ?_); refine ev_box rfl rfl (r.cells A c) rfl ?_; intro g1 W1 hg1 hsz hbn; have hgr := grown_of_below hbn; have zg1 : w.heap.size ≤ g1 := (by have := HB.size; omega); replace HB := HB.grown hgr (by have := HB.size; omega) (by simp); have hcg1 := hg1.cell; have hfg1 := hg1.frozen; clear hsz hbn hgr)
    | ((with_reducible refine gate_dst (N := 7) rfl ?_); refine wpList_load_row rfl _ _ rfl g1 rfl _ _ (0, 0) _ hg1 Tryd.underlying35 rfl rec_size ?_)
    | (go_at_call 76; (with_reducible refine (Ce.out _ (HT.out.next HB) (hd.next HB)).mono ?_); rintro e W2 ⟨rfl, hb⟩; have hgr := grown_of_below hb; replace hg1 := hg1.grown hgr (by simp); replace HB := HB.grown hgr (by have := HB.size; omega) (by simp); replace hcg1 := hg1.cell; replace hfg1 := hg1.frozen; clear hb hgr))
  go_ret2
  exact ⟨rfl, HB⟩
set_option maxRecDepth 100000 in
theorem size_calls (r : Rec) (A : Option Addr) (c : Nat) (hc : r.chk = 0) (hf : r.Fits) (w : World) (hT : Tabs w) (hd : RB w A r.Data) :
    Calls Tryd.prog 77 #[.agg (r.cells A c)] w fun e w' => e = .returned (.tuple #[.int .i64 r.enc.length, .int .i64 0]) ∧ Below w.heap.size w w' := by
  have HB := Below.refl w.heap.size w
  have HT := Lib.hid hT
  have ce := fun w hT hd => encode_calls r A c hf w hT hd hc
  have Ce := Lib.hid ce
  clear hT ce hc
  go_enter Tryd.func77, Tryd.ntmps77
  go_wp2_with (first
    | ((with_reducible refine gate_dst (N := 1) rfl ?_); refine ev_box rfl rfl (r.cells A c) rfl ?_; intro g1 W1 hg1 hsz hbn; have hgr := grown_of_below hbn; have zg1 : w.heap.size ≤ g1 := (by have := HB.size; omega); replace HB := HB.grown hgr (by have := HB.size; omega) (by simp); have hcg1 := hg1.cell; have hfg1 := hg1.frozen; clear hsz hbn hgr)
    | ((with_reducible refine gate_dst (N := 7) rfl ?_); refine wpList_load_row rfl _ _ rfl g1 rfl _ _ (0, 0) _ hg1 Tryd.underlying35 rfl rec_size ?_)
    | (go_at_call 76; (with_reducible refine (Ce.out _ (HT.out.next HB) (hd.next HB)).mono ?_); rintro e W2 ⟨A5, c5, rfl, o5, hb⟩; have hgr := grown_of_below hb; replace hg1 := hg1.grown hgr (by simp); replace HB := HB.grown hgr (by have := HB.size; omega) (by simp); replace hcg1 := hg1.cell; replace hfg1 := hg1.frozen; clear hb hgr))
  go_ret2
  exact ⟨rfl, HB⟩
end Go.Proofs.YtjhiohjpkdjkoaaDoor
namespace Go.Proofs.YtjhiohjpkdjkoaaDoor
open Go.RowKit
attribute [local go_sem] Rec.size_ Rec.g0 Rec.g1 Rec.g2 Rec.g3 Rec.g4 Rec.g5 Rec.g6 Rec.g7 Rec.g8 Rec.g9 Rec.g10 Rec.g11 Rec.fold Rec.same_self

theorem num3_later {w : World} (v : Int) (u : Later w) : Calls Tryd.prog 53 #[.int .i64 v] u.1 fun e w' => e = .returned (.int .i64 v) ∧ ∃ u' : Later w, w' = u'.1 :=
  calls_later ((num3_calls v _).mono fun _ _ ⟨he, hw⟩ => ⟨he, hw ▸ Below.refl _ _⟩)

set_option maxHeartbeats 4000000 in
set_option maxRecDepth 100000 in
theorem recordChecks_calls (r : Rec) (A : Option Addr) (c : Nat) (hf : r.Fits) (hz : r.Name.size ≤ 1099511627776) (w : World) (hT : Tabs w) (hR : RTabs w) (hd : RB w A r.Data) :
    Calls Tryd.prog 20 #[.agg (r.cells A c)] w fun e w' => e = .returned (.bool true) ∧ Below w.heap.size w w' := by
  have HB := Below.refl w.heap.size w
  have HT := Lib.hid hT
  have HR := Lib.hid hR
  have hrl := hf.data
  have cc := fun w => check_calls r A c hf w
  have cr := fun w => refCheck_calls r A c hz w
  generalize r.chk = k at cc cr
  have Cc := Lib.hid cc
  have Cr := Lib.hid cr
  clear hT hR cc cr
  go_enter Tryd.func20, Tryd.ntmps20
  go_wp2_with (first
    | ((with_reducible refine gate_dst (N := 1) rfl ?_); refine ev_box rfl rfl (r.cells A c) rfl ?_; intro g1 W1 hg1 hsz hbn; have hgr := grown_of_below hbn; have zg1 : w.heap.size ≤ g1 := (by have := HB.size; omega); replace HB := HB.grown hgr (by have := HB.size; omega) (by simp); have hcg1 := hg1.cell; have hfg1 := hg1.frozen; clear hsz hbn hgr)
    | (go_at_call 36; (with_reducible refine (started3_calls _ (HT.out.next HB)).mono ?_); rintro e W2 ⟨rfl, hb⟩; have hgr := grown_of_below hb; replace hg1 := hg1.grown hgr (by simp); replace HB := HB.grown hgr (by have := HB.size; omega) (by simp); replace hcg1 := hg1.cell; replace hfg1 := hg1.frozen; clear hb hgr)
    | ((with_reducible refine gate_dst (N := 7) rfl ?_); refine wpList_load_row rfl _ _ rfl g1 rfl _ _ (0, 0) _ hg1 Tryd.underlying35 rfl rec_size ?_)
    | (go_at_call 74; (with_reducible refine (refClone_calls r A c _ (hd.next HB) hrl).mono ?_); rintro e W3 ⟨A3, c3, rfl, o3, hb⟩; have hgr := grown_of_below hb; replace o3 := own_mono o3 HB.size; replace hg1 := hg1.grown hgr (by simp); replace HB := HB.grown hgr (by have := HB.size; omega) (by simp); replace hcg1 := hg1.cell; replace hfg1 := hg1.frozen; clear hb hgr)
    | ((with_reducible refine gate_dst (N := 4) rfl ?_); refine ev_alloc rfl rfl _ rec_zero ?_; intro g4 W4 hg4 hsz hbn; have hgr := grown_of_below hbn; have ng1g4 : g1 ≠ g4 := (by have := hg1.lt; omega); replace hg4 : Blk W4 g4 _ (Rec.zero.cells none 0) := hg4; have zg4 : w.heap.size ≤ g4 := (by have := HB.size; omega); replace hg1 := hg1.grown hgr (by simp); replace o3 := o3.kept hgr (by cases Value.ownBlock _ <;> simp); replace HB := HB.grown hgr (by have := HB.size; omega) (by simp); have hcg4 := hg4.cell; have hfg4 := hg4.frozen; replace hcg1 := hg1.cell; replace hfg1 := hg1.frozen; clear hsz hbn hgr)
    | ((with_reducible refine gate_store (p := 4) rfl ?_); refine ev_store_row (cs := r.cells A3 c3) rfl rfl rfl hg4 rfl rfl rec_size rfl (cells_one _ _ _) ?_; intro W5 hgn hgr; replace hg1 := hg1.grown hgr (by intro e; injection e with e; omega); replace o3 := o3.kept hgr (.inr (own_blk_ne o3 hg4 (by decide))); replace HB := HB.grown hgr (by have := HB.size; omega) (by intro k e; injection e with e; omega); replace hg4 := hgn; replace hcg1 := hg1.cell; replace hfg1 := hg1.frozen; replace hcg4 := hg4.cell; replace hfg4 := hg4.frozen; clear hgn hgr)
    | ((with_reducible refine gate_dst (N := 9) rfl ?_); refine wpList_load_row rfl _ _ rfl g1 rfl _ _ (0, 0) _ hg1 Tryd.underlying35 rfl rec_size ?_)
    | (go_at_call 75; (with_reducible refine (Cc.out _ (HT.out.next HB) (hd.next HB)).mono ?_); rintro e W6 ⟨rfl, hb⟩; have hgr := grown_of_below hb; replace hg1 := hg1.grown hgr (by simp); replace hg4 := hg4.grown hgr (by simp); replace o3 := o3.kept hgr (by cases Value.ownBlock _ <;> simp); replace HB := HB.grown hgr (by have := HB.size; omega) (by simp); replace hcg1 := hg1.cell; replace hfg1 := hg1.frozen; replace hcg4 := hg4.cell; replace hfg4 := hg4.frozen; clear hb hgr))
  have hc1 := hg1.later
  have hc4 := hg4.later
  have hr1 := hd.next HB
  have hr3 := own_rb o3
  have hR4 := Lib.hid (HR.out.next HB)
  clear hcg1 hfg1 hcg4 hfg4
  refine wp_region_later (by kernel_rfl) (by kernel_rfl) ?_
  repeat (go_big_quiet_step (first
    | (go_at_call 53; exact num3_later _ _)
    | (go_at_call 49; exact calls_later (Cr.out _ (hR4.out.next (Subtype.property _)) (hr1.later _)))
    | (go_at_call 35; exact calls_later (same3 r A A3 c c3 _ (hr1.later _) (hr3.later _) hrl))))
  refine later_end (fun wq hbq => ?_)
  go_wp2
  go_ret
  exact ⟨rfl, below_go HB hbq⟩
end Go.Proofs.YtjhiohjpkdjkoaaDoor
namespace Go.Proofs.YtjhiohjpkdjkoaaDoor
open Go.RowKit
attribute [local go_sem] Rec.size_ Rec.g0 Rec.g1 Rec.g2 Rec.g3 Rec.g4 Rec.g5 Rec.g6 Rec.g7 Rec.g8 Rec.g9 Rec.g10 Rec.g11 Rec.fold Rec.same_self

theorem same_self_calls (a : Rec) (A : Option Addr) (c : Nat) (w : World) (ha : RB w A a.Data) :
    Calls Tryd.prog 45 #[.agg (a.cells A c), .agg (a.cells A c)] w fun e w' => e = .returned (.bool true) ∧ Below w.heap.size w w' := by
  have := same_calls a a A A c c w ha ha
  rwa [Rec.same_self] at this

set_option maxHeartbeats 2000000 in
set_option maxRecDepth 100000 in
theorem looks_calls (a b : Rec) (A B : Option Addr) (c d : Nat) (w : World) (ha : RB w A a.Data) (hb : RB w B b.Data) (hla : a.Data.length ≤ 140737488351232) (hlb : b.Data.length ≤ 140737488351232) :
    Calls Tryd.prog 94 #[.agg (a.cells A c), .agg (b.cells B d)] w fun e w' => e = .returned (.bool true) ∧ Below w.heap.size w w' := by
  have HB := Below.refl w.heap.size w
  go_enter Tryd.func94, Tryd.ntmps94
  go_wp2_with (first
    | ((with_reducible refine gate_dst (N := 2) rfl ?_); refine ev_box rfl rfl (a.cells A c) rfl ?_; intro g1 W1 hg1 hsz hbn; have hgr := grown_of_below hbn; have zg1 : w.heap.size ≤ g1 := (by have := HB.size; omega); replace HB := HB.grown hgr (by have := HB.size; omega) (by simp); have hcg1 := hg1.cell; have hfg1 := hg1.frozen; clear hsz hbn hgr)
    | ((with_reducible refine gate_dst (N := 3) rfl ?_); refine ev_box rfl rfl (b.cells B d) rfl ?_; intro g2 W2 hg2 hsz hbn; have hgr := grown_of_below hbn; have ng1g2 : g1 ≠ g2 := (by have := hg1.lt; omega); have zg2 : w.heap.size ≤ g2 := (by have := HB.size; omega); replace hg1 := hg1.grown hgr (by simp); replace HB := HB.grown hgr (by have := HB.size; omega) (by simp); have hcg2 := hg2.cell; have hfg2 := hg2.frozen; replace hcg1 := hg1.cell; replace hfg1 := hg1.frozen; clear hsz hbn hgr)
    | ((with_reducible refine gate_dst (N := 9) rfl ?_); refine wpList_load_row rfl _ _ rfl g1 rfl _ _ (0, 0) _ hg1 Tryd.underlying35 rfl rec_size ?_)
    | (go_at_call 74; (with_reducible refine (refClone_calls a A c _ (ha.next HB) hla).mono ?_); rintro e W3 ⟨A3, c3, rfl, o3, hb⟩; have hgr := grown_of_below hb; replace o3 := own_mono o3 HB.size; replace hg1 := hg1.grown hgr (by simp); replace hg2 := hg2.grown hgr (by simp); replace HB := HB.grown hgr (by have := HB.size; omega) (by simp); replace hcg1 := hg1.cell; replace hfg1 := hg1.frozen; replace hcg2 := hg2.cell; replace hfg2 := hg2.frozen; clear hb hgr)
    | ((with_reducible refine gate_dst (N := 5) rfl ?_); refine ev_alloc rfl rfl _ rec_zero ?_; intro g5 W4 hg5 hsz hbn; have hgr := grown_of_below hbn; have ng1g5 : g1 ≠ g5 := (by have := hg1.lt; omega); have ng2g5 : g2 ≠ g5 := (by have := hg2.lt; omega); replace hg5 : Blk W4 g5 _ (Rec.zero.cells none 0) := hg5; have zg5 : w.heap.size ≤ g5 := (by have := HB.size; omega); replace hg1 := hg1.grown hgr (by simp); replace hg2 := hg2.grown hgr (by simp); replace o3 := o3.kept hgr (by cases Value.ownBlock _ <;> simp); replace HB := HB.grown hgr (by have := HB.size; omega) (by simp); have hcg5 := hg5.cell; have hfg5 := hg5.frozen; replace hcg1 := hg1.cell; replace hfg1 := hg1.frozen; replace hcg2 := hg2.cell; replace hfg2 := hg2.frozen; clear hsz hbn hgr)
    | ((with_reducible refine gate_store (p := 5) rfl ?_); refine ev_store_row (cs := a.cells A3 c3) rfl rfl rfl hg5 rfl rfl rec_size rfl (cells_one _ _ _) ?_; intro W5 hgn hgr; replace hg1 := hg1.grown hgr (by intro e; injection e with e; omega); replace hg2 := hg2.grown hgr (by intro e; injection e with e; omega); replace o3 := o3.kept hgr (.inr (own_blk_ne o3 hg5 (by decide))); replace HB := HB.grown hgr (by have := HB.size; omega) (by intro k e; injection e with e; omega); replace hg5 := hgn; replace hcg1 := hg1.cell; replace hfg1 := hg1.frozen; replace hcg2 := hg2.cell; replace hfg2 := hg2.frozen; replace hcg5 := hg5.cell; replace hfg5 := hg5.frozen; clear hgn hgr))
  have hc1 := hg1.later
  have hc2 := hg2.later
  have ha4 := ha.next HB
  have hb4 := hb.next HB
  clear hcg1 hfg1 hcg2 hfg2 hcg5 hfg5
  simp only [Act.put, List.setIfInBounds_toArray, List.set_cons_succ, List.set_cons_zero]
  refine wp_region_later (by kernel_rfl) (by kernel_rfl) ?_
  repeat (go_big_quiet_step (first
    | (go_at_call 35; exact calls_later (refSame_calls _ _ _ _ _ _ _ (ha4.later _) (hb4.later _) hla hlb))
    | (go_at_call 45; exact calls_later (same_calls _ _ _ _ _ _ _ (by first | exact ha4.later _ | exact hb4.later _) (by first | exact ha4.later _ | exact hb4.later _)))))
  refine later_end (fun W6 hb6 => ?_)
  replace hg1 := hg1.next hb6
  replace hg2 := hg2.next hb6
  replace hg5 := hg5.next hb6
  replace o3 := own_next o3 hb6
  replace HB := below_go HB hb6
  clear hc1 hc2 ha4 hb4
  go_wp2_with (first
    | ((with_reducible refine gate_dst (N := 30) rfl ?_); refine wpList_load_row rfl _ _ rfl g1 rfl _ _ (0, 0) _ hg1 Tryd.underlying35 rfl rec_size ?_)
    | (go_at_call 46; (with_reducible refine (clone_calls a A c _ (ha.next HB) hla).mono ?_); rintro e W1 ⟨A6, c6, rfl, o6, hb⟩; have hgr := grown_of_below hb; have do3o6 := own_apart o3 o6 (Nat.le_refl _); replace o6 := own_mono o6 HB.size; replace hg1 := hg1.grown hgr (by simp); replace hg2 := hg2.grown hgr (by simp); replace hg5 := hg5.grown hgr (by simp); replace o3 := o3.kept hgr (by cases Value.ownBlock _ <;> simp); replace HB := HB.grown hgr (by have := HB.size; omega) (by simp); replace hcg1 := hg1.cell; replace hfg1 := hg1.frozen; replace hcg2 := hg2.cell; replace hfg2 := hg2.frozen; replace hcg5 := hg5.cell; replace hfg5 := hg5.frozen; clear hb hgr)
    | ((with_reducible refine gate_dst (N := 6) rfl ?_); refine ev_alloc rfl rfl _ rec_zero ?_; intro g6 W2 hg6 hsz hbn; have hgr := grown_of_below hbn; have ng1g6 : g1 ≠ g6 := (by have := hg1.lt; omega); have ng2g6 : g2 ≠ g6 := (by have := hg2.lt; omega); have ng5g6 : g5 ≠ g6 := (by have := hg5.lt; omega); replace hg6 : Blk W2 g6 _ (Rec.zero.cells none 0) := hg6; have zg6 : w.heap.size ≤ g6 := (by have := HB.size; omega); replace hg1 := hg1.grown hgr (by simp); replace hg2 := hg2.grown hgr (by simp); replace hg5 := hg5.grown hgr (by simp); replace o3 := o3.kept hgr (by cases Value.ownBlock _ <;> simp); replace o6 := o6.kept hgr (by cases Value.ownBlock _ <;> simp); replace HB := HB.grown hgr (by have := HB.size; omega) (by simp); have hcg6 := hg6.cell; have hfg6 := hg6.frozen; replace hcg1 := hg1.cell; replace hfg1 := hg1.frozen; replace hcg2 := hg2.cell; replace hfg2 := hg2.frozen; replace hcg5 := hg5.cell; replace hfg5 := hg5.frozen; clear hsz hbn hgr)
    | ((with_reducible refine gate_store (p := 6) rfl ?_); refine ev_store_row (cs := a.cells A6 c6) rfl rfl rfl hg6 rfl rfl rec_size rfl (cells_one _ _ _) ?_; intro W3 hgn hgr; replace hg1 := hg1.grown hgr (by intro e; injection e with e; omega); replace hg2 := hg2.grown hgr (by intro e; injection e with e; omega); replace hg5 := hg5.grown hgr (by intro e; injection e with e; omega); replace o3 := o3.kept hgr (.inr (own_blk_ne o3 hg6 (by decide))); replace o6 := o6.kept hgr (.inr (own_blk_ne o6 hg6 (by decide))); replace HB := HB.grown hgr (by have := HB.size; omega) (by intro k e; injection e with e; omega); replace hg6 := hgn; replace hcg1 := hg1.cell; replace hfg1 := hg1.frozen; replace hcg2 := hg2.cell; replace hfg2 := hg2.frozen; replace hcg5 := hg5.cell; replace hfg5 := hg5.frozen; replace hcg6 := hg6.cell; replace hfg6 := hg6.frozen; clear hgn hgr)
    | ((with_reducible refine gate_dst (N := 32) rfl ?_); refine wpList_load_row rfl _ _ rfl g6 rfl _ _ (0, 0) _ hg6 Tryd.underlying35 rfl rec_size ?_)
    | ((with_reducible refine gate_dst (N := 33) rfl ?_); refine wpList_load_row rfl _ _ rfl g1 rfl _ _ (0, 0) _ hg1 Tryd.underlying35 rfl rec_size ?_)
    | (go_at_call 35; (with_reducible refine (refSame_calls a a A6 A c6 c _ (own_rb o6) (ha.next HB) hla hla).mono ?_); rintro e W4 ⟨rfl, hb⟩; have hgr := grown_of_below hb; replace hg1 := hg1.grown hgr (by simp); replace hg2 := hg2.grown hgr (by simp); replace hg5 := hg5.grown hgr (by simp); replace hg6 := hg6.grown hgr (by simp); replace o3 := o3.kept hgr (by cases Value.ownBlock _ <;> simp); replace o6 := o6.kept hgr (by cases Value.ownBlock _ <;> simp); replace HB := HB.grown hgr (by have := HB.size; omega) (by simp); replace hcg1 := hg1.cell; replace hfg1 := hg1.frozen; replace hcg2 := hg2.cell; replace hfg2 := hg2.frozen; replace hcg5 := hg5.cell; replace hfg5 := hg5.frozen; replace hcg6 := hg6.cell; replace hfg6 := hg6.frozen; clear hb hgr))
  go_loopg [7] a.Data.length (fun n v7 wr => ∃ (k : Nat) (ns : List Int), n + k = a.Data.length ∧ v7 = .int .i64 k ∧ Aside (ns.length = a.Data.length ∧ Blk wr g1 _ (a.cells A c) ∧ Blk wr g5 _ (a.cells A3 c3) ∧ Blk wr g6 _ (a.cells A6 c6) ∧
    wr.ownsRow w.heap.size 5 1 (.slice A3 a.Data.length c3) a.Data.length (u8s a.Data) ∧ wr.ownsRow w.heap.size 5 1 (.slice A6 a.Data.length c6) a.Data.length (ns.map (Value.int .u8)) ∧ Below w.heap.size w wr))
  case atStart => exact ⟨0, a.Data.map (fun b => (b.toNat : Int)), by omega, rfl, ⟨by simp, hg1, hg5, hg6, o3, by simpa [u8s, Function.comp_def] using o6, HB⟩⟩
  case round =>
    clear hg1 hg2 hg5 hg6 o3 o6 HB hcg1 hcg2 hcg5 hcg6 hfg1 hfg2 hfg5 hfg6
    obtain ⟨k, ns, hn, rfl, HA⟩ := hrel
    obtain ⟨hnl, hg1, hg5, hg6, o3, o6, HB⟩ := HA.out
    clear HA
    by_cases hlt : k < a.Data.length
    · obtain ⟨g, rfl, hge⟩ := own_at o6 (by omega)
      have hck : wr.cell? ⟨g, k, none⟩ = some (.int .u8 (ns.getD k 0)) := by
        rcases own_cell (k := k) o6 with h | h
        · rw [h]; simp [show k < ns.length by omega]
        · omega
      have hfk := own_frozen o6 k
      have hcg6 := hg6.cell
      go_wp2
      go_still_tail 10, (by kernel_rfl)
      refine wpList_drew (fun wd hbd => ?_)
      replace hg1 := hg1.next hbd
      replace hg5 := hg5.next hbd
      replace hg6 := hg6.next hbd
      replace o3 := own_next o3 hbd
      replace o6 := own_next o6 hbd
      replace HB := below_go HB hbd
      go_wp2_with (first
        | ((with_reducible refine gate_store (p := 52) rfl ?_); refine ev_store_own rfl rfl rfl o6 (k := k) (by omega) rfl rfl rfl (by kernel_rfl) ?_; intro W1 on hgr; replace hg1 := hg1.grown hgr (fun e => own_blk_ne o6 hg1 (by decide) e.symm); replace hg5 := hg5.grown hgr (fun e => own_blk_ne o6 hg5 (by decide) e.symm); replace hg6 := hg6.grown hgr (fun e => own_blk_ne o6 hg6 (by decide) e.symm); replace o3 := o3.kept hgr do3o6; replace HB := HB.grown hgr (by have := HB.size; omega) (own_base o6); replace o6 := on; replace hcg1 := hg1.cell; replace hfg1 := hg1.frozen; replace hcg5 := hg5.cell; replace hfg5 := hg5.frozen; replace hcg6 := hg6.cell; replace hfg6 := hg6.frozen; clear on hgr))
      go_roundg (gk - 1)
      case measure => omega
      case rel => exact ⟨k + 1, ns.set k _, by omega, by go_num, ⟨by simp [hnl], hg1, hg5, hg6, o3, by rw [List.map_set]; exact o6, HB⟩⟩
    · have hcg6 := hg6.cell
      go_wp2_with (first
        | ((with_reducible refine gate_dst (N := 53) rfl ?_); refine wpList_load_row rfl _ _ rfl g1 rfl _ _ (0, 0) _ hg1 Tryd.underlying35 rfl rec_size ?_)
        | (go_at_call 46; (with_reducible refine (clone_calls a A c _ (ha.next HB) hla).mono ?_); rintro e W1 ⟨A8, c8, rfl, o8, hb⟩; have hgr := grown_of_below hb; have do3o8 := own_apart o3 o8 (Nat.le_refl _); replace o8 := own_mono o8 HB.size; replace hg1 := hg1.grown hgr (by simp); replace hg5 := hg5.grown hgr (by simp); replace hg6 := hg6.grown hgr (by simp); replace o3 := o3.kept hgr (by cases Value.ownBlock _ <;> simp); replace HB := HB.grown hgr (by have := HB.size; omega) (by simp); replace hcg1 := hg1.cell; replace hfg1 := hg1.frozen; replace hcg5 := hg5.cell; replace hfg5 := hg5.frozen; replace hcg6 := hg6.cell; replace hfg6 := hg6.frozen; clear hb hgr)
        | ((with_reducible refine gate_dst (N := 8) rfl ?_); refine ev_alloc rfl rfl _ rec_zero ?_; intro g8 W2 hg8 hsz hbn; have hgr := grown_of_below hbn; have ng1g8 : g1 ≠ g8 := (by have := hg1.lt; omega); have ng5g8 : g5 ≠ g8 := (by have := hg5.lt; omega); have ng6g8 : g6 ≠ g8 := (by have := hg6.lt; omega); replace hg8 : Blk W2 g8 _ (Rec.zero.cells none 0) := hg8; have zg8 : w.heap.size ≤ g8 := (by have := HB.size; omega); replace hg1 := hg1.grown hgr (by simp); replace hg5 := hg5.grown hgr (by simp); replace hg6 := hg6.grown hgr (by simp); replace o3 := o3.kept hgr (by cases Value.ownBlock _ <;> simp); replace o8 := o8.kept hgr (by cases Value.ownBlock _ <;> simp); replace HB := HB.grown hgr (by have := HB.size; omega) (by simp); have hcg8 := hg8.cell; have hfg8 := hg8.frozen; replace hcg1 := hg1.cell; replace hfg1 := hg1.frozen; replace hcg5 := hg5.cell; replace hfg5 := hg5.frozen; replace hcg6 := hg6.cell; replace hfg6 := hg6.frozen; clear hsz hbn hgr)
        | ((with_reducible refine gate_store (p := 8) rfl ?_); refine ev_store_row (cs := a.cells A8 c8) rfl rfl rfl hg8 rfl rfl rec_size rfl (cells_one _ _ _) ?_; intro W3 hgn hgr; replace hg1 := hg1.grown hgr (by intro e; injection e with e; omega); replace hg5 := hg5.grown hgr (by intro e; injection e with e; omega); replace hg6 := hg6.grown hgr (by intro e; injection e with e; omega); replace o3 := o3.kept hgr (.inr (own_blk_ne o3 hg8 (by decide))); replace o8 := o8.kept hgr (.inr (own_blk_ne o8 hg8 (by decide))); replace HB := HB.grown hgr (by have := HB.size; omega) (by intro k e; injection e with e; omega); replace hg8 := hgn; replace hcg1 := hg1.cell; replace hfg1 := hg1.frozen; replace hcg5 := hg5.cell; replace hfg5 := hg5.frozen; replace hcg6 := hg6.cell; replace hfg6 := hg6.frozen; replace hcg8 := hg8.cell; replace hfg8 := hg8.frozen; clear hgn hgr)
        | ((with_reducible refine gate_dst (N := 55) rfl ?_); refine wpList_load_row rfl _ _ rfl g1 rfl _ _ (0, 0) _ hg1 Tryd.underlying35 rfl rec_size ?_)
        | ((with_reducible refine gate_dst (N := 56) rfl ?_); refine wpList_load_row rfl _ _ rfl g5 rfl _ _ (0, 0) _ hg5 Tryd.underlying35 rfl rec_size ?_)
        | ((with_reducible refine gate_dst (N := 59) rfl ?_); refine wpList_load_row rfl _ _ rfl g8 rfl _ _ (0, 0) _ hg8 Tryd.underlying35 rfl rec_size ?_)
        | ((with_reducible refine gate_dst (N := 60) rfl ?_); refine wpList_load_row rfl _ _ rfl g5 rfl _ _ (0, 0) _ hg5 Tryd.underlying35 rfl rec_size ?_)
        | (go_at_call 35; (with_reducible refine (refSame_calls a a A A3 c c3 _ (ha.next HB) (own_rb o3) hla hla).mono ?_); rintro e W4 ⟨rfl, hb⟩; have hgr := grown_of_below hb; replace hg1 := hg1.grown hgr (by simp); replace hg5 := hg5.grown hgr (by simp); replace hg6 := hg6.grown hgr (by simp); replace hg8 := hg8.grown hgr (by simp); replace o3 := o3.kept hgr (by cases Value.ownBlock _ <;> simp); replace o8 := o8.kept hgr (by cases Value.ownBlock _ <;> simp); replace HB := HB.grown hgr (by have := HB.size; omega) (by simp); replace hcg1 := hg1.cell; replace hfg1 := hg1.frozen; replace hcg5 := hg5.cell; replace hfg5 := hg5.frozen; replace hcg6 := hg6.cell; replace hfg6 := hg6.frozen; replace hcg8 := hg8.cell; replace hfg8 := hg8.frozen; clear hb hgr)
        | (go_at_call 35; (with_reducible refine (refSame_calls a a A8 A3 c8 c3 _ (own_rb o8) (own_rb o3) hla hla).mono ?_); rintro e W5 ⟨rfl, hb⟩; have hgr := grown_of_below hb; replace hg1 := hg1.grown hgr (by simp); replace hg5 := hg5.grown hgr (by simp); replace hg6 := hg6.grown hgr (by simp); replace hg8 := hg8.grown hgr (by simp); replace o3 := o3.kept hgr (by cases Value.ownBlock _ <;> simp); replace o8 := o8.kept hgr (by cases Value.ownBlock _ <;> simp); replace HB := HB.grown hgr (by have := HB.size; omega) (by simp); replace hcg1 := hg1.cell; replace hfg1 := hg1.frozen; replace hcg5 := hg5.cell; replace hfg5 := hg5.frozen; replace hcg6 := hg6.cell; replace hfg6 := hg6.frozen; replace hcg8 := hg8.cell; replace hfg8 := hg8.frozen; clear hb hgr))
      go_ret
      exact ⟨rfl, HB⟩
end Go.Proofs.YtjhiohjpkdjkoaaDoor
namespace Go.Proofs.YtjhiohjpkdjkoaaDoor
open Go.RowKit
attribute [local go_sem] Rec.size_ Rec.g0 Rec.g1 Rec.g2 Rec.g3 Rec.g4 Rec.g5 Rec.g6 Rec.g7 Rec.g8 Rec.g9 Rec.g10 Rec.g11 Rec.fold Rec.same_self

set_option maxHeartbeats 1000000 in
set_option maxRecDepth 100000 in
theorem refEncode_bad (r : Rec) (A : Option Addr) (c : Nat) (k : Int) (hk : r.chk = k) (h0 : k ≠ 0) (hz : r.Name.size ≤ 1099511627776) (w : World) (hT : RTabs w) (hd : RB w A r.Data) :
    Calls Tryd.prog 78 #[.agg (r.cells A c)] w fun e w' => e = .returned (.tuple #[.slice none 0 0, .int .i64 k]) ∧ Below w.heap.size w w' := by
  have HB := Below.refl w.heap.size w
  have HT := Lib.hid hT
  have t1 := int_bne_true h0
  have cc := fun w => ref_check_of r k hk A c hz w
  have Cc := Lib.hid cc
  clear hT cc hk h0
  go_enter Tryd.func78, Tryd.ntmps78
  go_wp2_with (first
    | ((with_reducible refine gate_dst (N := 1) rfl ?_); refine ev_box rfl rfl (r.cells A c) rfl ?_; intro g1 W1 hg1 hsz hbn; have hgr := grown_of_below hbn; have zg1 : w.heap.size ≤ g1 := (by have := HB.size; omega); replace HB := HB.grown hgr (by have := HB.size; omega) (by simp); have hcg1 := hg1.cell; have hfg1 := hg1.frozen; clear hsz hbn hgr)
    | ((with_reducible refine gate_dst (N := 9) rfl ?_); refine wpList_load_row rfl _ _ rfl g1 rfl _ _ (0, 0) _ hg1 Tryd.underlying35 rfl rec_size ?_)
    | (go_at_call 49; (with_reducible refine (Cc.out _ (HT.out.next HB) (hd.next HB)).mono ?_); rintro e W2 ⟨rfl, hb⟩; have hgr := grown_of_below hb; replace hg1 := hg1.grown hgr (by simp); replace HB := HB.grown hgr (by have := HB.size; omega) (by simp); replace hcg1 := hg1.cell; replace hfg1 := hg1.frozen; clear hb hgr))
  go_ret2
  exact ⟨rfl, HB⟩
theorem refAlike_nil (w : World) : Calls Tryd.prog 79 #[.slice none 0 0, .slice none 0 0] w fun e w' => e = .returned (.bool true) ∧ Below w.heap.size w w' :=
  refAlike_calls [] [] none none 0 0 w RB.nil RB.nil (by decide) (by decide)
theorem refAlike_true (l : List UInt8) (A B : Option Addr) (c d : Nat) (w : World) (ha : RB w A l) (hb : RB w B l) (hl : l.length ≤ 140737488351232) :
    Calls Tryd.prog 79 #[.slice A l.length c, .slice B l.length d] w fun e w' => e = .returned (.bool true) ∧ Below w.heap.size w w' := by
  have := refAlike_calls l l A B c d w ha hb hl hl
  simpa using this

set_option maxHeartbeats 4000000 in
set_option maxRecDepth 100000 in
theorem writes_bad (r : Rec) (A : Option Addr) (c : Nat) (hf : r.Fits) (hz : r.Name.size ≤ 1099511627776) (w : World) (hT : Tabs w) (hR : RTabs w) (hd : RB w A r.Data) (hc : r.chk ≠ 0) :
    Calls Tryd.prog 21 #[.agg (r.cells A c)] w fun e w' => e = .returned (.bool true) ∧ Below w.heap.size w w' := by
  have HB := Below.refl w.heap.size w
  have HT := Lib.hid hT
  have HR := Lib.hid hR
  have hrl := hf.data
  have ce := fun w => encode_bad r A c r.chk rfl hc hf w
  have cs := fun w => size_bad r A c r.chk rfl hc hf w
  have cr := fun A c w => refEncode_bad r A c r.chk rfl hc hz w
  generalize r.chk = k at ce cs cr
  have Ce := Lib.hid ce
  have Cs := Lib.hid cs
  have Cr := Lib.hid cr
  clear hT hR ce cs cr hc
  go_enter Tryd.func21, Tryd.ntmps21
  go_wp2_with (first
    | ((with_reducible refine gate_dst (N := 1) rfl ?_); refine ev_box rfl rfl (r.cells A c) rfl ?_; intro g1 W1 hg1 hsz hbn; have hgr := grown_of_below hbn; have zg1 : w.heap.size ≤ g1 := (by have := HB.size; omega); replace HB := HB.grown hgr (by have := HB.size; omega) (by simp); have hcg1 := hg1.cell; have hfg1 := hg1.frozen; clear hsz hbn hgr)
    | (go_at_call 36; (with_reducible refine (started3_calls _ (HT.out.next HB)).mono ?_); rintro e W2 ⟨rfl, hb⟩; have hgr := grown_of_below hb; replace hg1 := hg1.grown hgr (by simp); replace HB := HB.grown hgr (by have := HB.size; omega) (by simp); replace hcg1 := hg1.cell; replace hfg1 := hg1.frozen; clear hb hgr)
    | ((with_reducible refine gate_dst (N := 12) rfl ?_); refine wpList_load_row rfl _ _ rfl g1 rfl _ _ (0, 0) _ hg1 Tryd.underlying35 rfl rec_size ?_)
    | (go_at_call 74; (with_reducible refine (refClone_calls r A c _ (hd.next HB) hrl).mono ?_); rintro e W3 ⟨A3, c3, rfl, o3, hb⟩; have hgr := grown_of_below hb; replace o3 := own_mono o3 HB.size; replace hg1 := hg1.grown hgr (by simp); replace HB := HB.grown hgr (by have := HB.size; omega) (by simp); replace hcg1 := hg1.cell; replace hfg1 := hg1.frozen; clear hb hgr)
    | ((with_reducible refine gate_dst (N := 4) rfl ?_); refine ev_alloc rfl rfl _ rec_zero ?_; intro g4 W4 hg4 hsz hbn; have hgr := grown_of_below hbn; have ng1g4 : g1 ≠ g4 := (by have := hg1.lt; omega); replace hg4 : Blk W4 g4 _ (Rec.zero.cells none 0) := hg4; have zg4 : w.heap.size ≤ g4 := (by have := HB.size; omega); replace hg1 := hg1.grown hgr (by simp); replace o3 := o3.kept hgr (by cases Value.ownBlock _ <;> simp); replace HB := HB.grown hgr (by have := HB.size; omega) (by simp); have hcg4 := hg4.cell; have hfg4 := hg4.frozen; replace hcg1 := hg1.cell; replace hfg1 := hg1.frozen; clear hsz hbn hgr)
    | ((with_reducible refine gate_store (p := 4) rfl ?_); refine ev_store_row (cs := r.cells A3 c3) rfl rfl rfl hg4 rfl rfl rec_size rfl (cells_one _ _ _) ?_; intro W5 hgn hgr; replace hg1 := hg1.grown hgr (by intro e; injection e with e; omega); replace o3 := o3.kept hgr (.inr (own_blk_ne o3 hg4 (by decide))); replace HB := HB.grown hgr (by have := HB.size; omega) (by intro k e; injection e with e; omega); replace hg4 := hgn; replace hcg1 := hg1.cell; replace hfg1 := hg1.frozen; replace hcg4 := hg4.cell; replace hfg4 := hg4.frozen; clear hgn hgr)
    | ((with_reducible refine gate_dst (N := 15) rfl ?_); refine wpList_load_row rfl _ _ rfl g1 rfl _ _ (0, 0) _ hg1 Tryd.underlying35 rfl rec_size ?_)
    | (go_at_call 76; (with_reducible refine (Ce.out _ (HT.out.next HB) (hd.next HB)).mono ?_); rintro e W6 ⟨rfl, hb⟩; have hgr := grown_of_below hb; replace hg1 := hg1.grown hgr (by simp); replace hg4 := hg4.grown hgr (by simp); replace o3 := o3.kept hgr (by cases Value.ownBlock _ <;> simp); replace HB := HB.grown hgr (by have := HB.size; omega) (by simp); replace hcg1 := hg1.cell; replace hfg1 := hg1.frozen; replace hcg4 := hg4.cell; replace hfg4 := hg4.frozen; clear hb hgr)
    | ((with_reducible refine gate_dst (N := 20) rfl ?_); refine wpList_load_row rfl _ _ rfl g1 rfl _ _ (0, 0) _ hg1 Tryd.underlying35 rfl rec_size ?_)
    | (go_at_call 77; (with_reducible refine (Cs.out _ (HT.out.next HB) (hd.next HB)).mono ?_); rintro e W7 ⟨rfl, hb⟩; have hgr := grown_of_below hb; replace hg1 := hg1.grown hgr (by simp); replace hg4 := hg4.grown hgr (by simp); replace o3 := o3.kept hgr (by cases Value.ownBlock _ <;> simp); replace HB := HB.grown hgr (by have := HB.size; omega) (by simp); replace hcg1 := hg1.cell; replace hfg1 := hg1.frozen; replace hcg4 := hg4.cell; replace hfg4 := hg4.frozen; clear hb hgr)
    | ((with_reducible refine gate_dst (N := 25) rfl ?_); refine wpList_load_row rfl _ _ rfl g4 rfl _ _ (0, 0) _ hg4 Tryd.underlying35 rfl rec_size ?_)
    | (go_at_call 78; (with_reducible refine (Cr.out _ _ _ (HR.out.next HB) (own_rb o3)).mono ?_); rintro e W8 ⟨rfl, hb⟩; have hgr := grown_of_below hb; replace hg1 := hg1.grown hgr (by simp); replace hg4 := hg4.grown hgr (by simp); replace o3 := o3.kept hgr (by cases Value.ownBlock _ <;> simp); replace HB := HB.grown hgr (by have := HB.size; omega) (by simp); replace hcg1 := hg1.cell; replace hfg1 := hg1.frozen; replace hcg4 := hg4.cell; replace hfg4 := hg4.frozen; clear hb hgr)
    | (go_at_call 53; (with_reducible refine (num3_calls _ _).mono ?_); rintro e w1 ⟨rfl, rfl⟩)
    | (go_at_call 79; (with_reducible refine (refAlike_nil _).mono ?_); rintro e W9 ⟨rfl, hb⟩; have hgr := grown_of_below hb; replace hg1 := hg1.grown hgr (by simp); replace hg4 := hg4.grown hgr (by simp); replace o3 := o3.kept hgr (by cases Value.ownBlock _ <;> simp); replace HB := HB.grown hgr (by have := HB.size; omega) (by simp); replace hcg1 := hg1.cell; replace hfg1 := hg1.frozen; replace hcg4 := hg4.cell; replace hfg4 := hg4.frozen; clear hb hgr)
    | ((with_reducible refine gate_dst (N := 54) rfl ?_); (first | (refine wpList_ungate ?_ ?_; focus (first | rfl | (simp [Region.wanted, yielded]; done))) | (refine wpList_ungate (by first | rfl | simp [Region.wanted, yielded]) ?_)); refine wpList_load_row rfl _ _ rfl g1 rfl _ _ (0, 0) _ hg1 Tryd.underlying35 rfl rec_size ?_)
    | ((with_reducible refine gate_dst (N := 55) rfl ?_); (first | (refine wpList_ungate ?_ ?_; focus (first | rfl | (simp [Region.wanted, yielded]; done))) | (refine wpList_ungate (by first | rfl | simp [Region.wanted, yielded]) ?_)); refine wpList_load_row rfl _ _ rfl g4 rfl _ _ (0, 0) _ hg4 Tryd.underlying35 rfl rec_size ?_)
    | (go_at_call 35; (with_reducible refine (same3 r _ _ _ _ _ (hd.next HB) (own_rb o3) hrl).mono ?_); rintro e W10 ⟨rfl, hb⟩; have hgr := grown_of_below hb; replace hg1 := hg1.grown hgr (by simp); replace hg4 := hg4.grown hgr (by simp); replace o3 := o3.kept hgr (by cases Value.ownBlock _ <;> simp); replace HB := HB.grown hgr (by have := HB.size; omega) (by simp); replace hcg1 := hg1.cell; replace hfg1 := hg1.frozen; replace hcg4 := hg4.cell; replace hfg4 := hg4.frozen; clear hb hgr))
  go_ret
  exact ⟨rfl, HB⟩
set_option maxHeartbeats 4000000 in
set_option maxRecDepth 100000 in
theorem writes_good (r : Rec) (A : Option Addr) (c : Nat) (hf : r.Fits) (hcd : -9223372036854775808 ≤ r.Code ∧ r.Code ≤ 9223372036854775807) (w : World) (hT : Tabs w) (hR : RTabs w) (hd : RB w A r.Data) (hc : r.chk = 0) :
    Calls Tryd.prog 21 #[.agg (r.cells A c)] w fun e w' => e = .returned (.bool true) ∧ Below w.heap.size w w' := by
  have HB := Below.refl w.heap.size w
  have HT := Lib.hid hT
  have HR := Lib.hid hR
  have hrl := hf.data
  have ce := fun w hT hd => encode_calls r A c hf w hT hd hc
  have cs := fun w => size_calls r A c hc hf w
  have cr := fun A c w hT hd => refEncode_calls r A c hf hcd w hT hd hc
  have hel : r.enc.length ≤ 182600 := encTo_short (valid_small hc) 11 (by omega)
  generalize r.enc = b at ce cs cr hel
  have Ce := Lib.hid ce
  have Cs := Lib.hid cs
  have Cr := Lib.hid cr
  clear hT hR ce cs cr hc
  go_enter Tryd.func21, Tryd.ntmps21
  go_wp2_with (first
    | ((with_reducible refine gate_dst (N := 1) rfl ?_); refine ev_box rfl rfl (r.cells A c) rfl ?_; intro g1 W1 hg1 hsz hbn; have hgr := grown_of_below hbn; have zg1 : w.heap.size ≤ g1 := (by have := HB.size; omega); replace HB := HB.grown hgr (by have := HB.size; omega) (by simp); have hcg1 := hg1.cell; have hfg1 := hg1.frozen; clear hsz hbn hgr)
    | (go_at_call 36; (with_reducible refine (started3_calls _ (HT.out.next HB)).mono ?_); rintro e W2 ⟨rfl, hb⟩; have hgr := grown_of_below hb; replace hg1 := hg1.grown hgr (by simp); replace HB := HB.grown hgr (by have := HB.size; omega) (by simp); replace hcg1 := hg1.cell; replace hfg1 := hg1.frozen; clear hb hgr)
    | ((with_reducible refine gate_dst (N := 12) rfl ?_); refine wpList_load_row rfl _ _ rfl g1 rfl _ _ (0, 0) _ hg1 Tryd.underlying35 rfl rec_size ?_)
    | (go_at_call 74; (with_reducible refine (refClone_calls r A c _ (hd.next HB) hrl).mono ?_); rintro e W3 ⟨A3, c3, rfl, o3, hb⟩; have hgr := grown_of_below hb; replace o3 := own_mono o3 HB.size; replace hg1 := hg1.grown hgr (by simp); replace HB := HB.grown hgr (by have := HB.size; omega) (by simp); replace hcg1 := hg1.cell; replace hfg1 := hg1.frozen; clear hb hgr)
    | ((with_reducible refine gate_dst (N := 4) rfl ?_); refine ev_alloc rfl rfl _ rec_zero ?_; intro g4 W4 hg4 hsz hbn; have hgr := grown_of_below hbn; have ng1g4 : g1 ≠ g4 := (by have := hg1.lt; omega); replace hg4 : Blk W4 g4 _ (Rec.zero.cells none 0) := hg4; have zg4 : w.heap.size ≤ g4 := (by have := HB.size; omega); replace hg1 := hg1.grown hgr (by simp); replace o3 := o3.kept hgr (by cases Value.ownBlock _ <;> simp); replace HB := HB.grown hgr (by have := HB.size; omega) (by simp); have hcg4 := hg4.cell; have hfg4 := hg4.frozen; replace hcg1 := hg1.cell; replace hfg1 := hg1.frozen; clear hsz hbn hgr)
    | ((with_reducible refine gate_store (p := 4) rfl ?_); refine ev_store_row (cs := r.cells A3 c3) rfl rfl rfl hg4 rfl rfl rec_size rfl (cells_one _ _ _) ?_; intro W5 hgn hgr; replace hg1 := hg1.grown hgr (by intro e; injection e with e; omega); replace o3 := o3.kept hgr (.inr (own_blk_ne o3 hg4 (by decide))); replace HB := HB.grown hgr (by have := HB.size; omega) (by intro k e; injection e with e; omega); replace hg4 := hgn; replace hcg1 := hg1.cell; replace hfg1 := hg1.frozen; replace hcg4 := hg4.cell; replace hfg4 := hg4.frozen; clear hgn hgr)
    | ((with_reducible refine gate_dst (N := 15) rfl ?_); refine wpList_load_row rfl _ _ rfl g1 rfl _ _ (0, 0) _ hg1 Tryd.underlying35 rfl rec_size ?_)
    | (go_at_call 76; (with_reducible refine (Ce.out _ (HT.out.next HB) (hd.next HB)).mono ?_); rintro e W6 ⟨A5, c5, rfl, o5, hb⟩; have hgr := grown_of_below hb; have do3o5 := own_apart o3 o5 (Nat.le_refl _); replace o5 := own_mono o5 HB.size; replace hg1 := hg1.grown hgr (by simp); replace hg4 := hg4.grown hgr (by simp); replace o3 := o3.kept hgr (by cases Value.ownBlock _ <;> simp); replace HB := HB.grown hgr (by have := HB.size; omega) (by simp); replace hcg1 := hg1.cell; replace hfg1 := hg1.frozen; replace hcg4 := hg4.cell; replace hfg4 := hg4.frozen; clear hb hgr)
    | ((with_reducible refine gate_dst (N := 20) rfl ?_); refine wpList_load_row rfl _ _ rfl g1 rfl _ _ (0, 0) _ hg1 Tryd.underlying35 rfl rec_size ?_)
    | (go_at_call 77; (with_reducible refine (Cs.out _ (HT.out.next HB) (hd.next HB)).mono ?_); rintro e W7 ⟨rfl, hb⟩; have hgr := grown_of_below hb; replace hg1 := hg1.grown hgr (by simp); replace hg4 := hg4.grown hgr (by simp); replace o3 := o3.kept hgr (by cases Value.ownBlock _ <;> simp); replace o5 := o5.kept hgr (by cases Value.ownBlock _ <;> simp); replace HB := HB.grown hgr (by have := HB.size; omega) (by simp); replace hcg1 := hg1.cell; replace hfg1 := hg1.frozen; replace hcg4 := hg4.cell; replace hfg4 := hg4.frozen; clear hb hgr)
    | ((with_reducible refine gate_dst (N := 25) rfl ?_); refine wpList_load_row rfl _ _ rfl g4 rfl _ _ (0, 0) _ hg4 Tryd.underlying35 rfl rec_size ?_)
    | (go_at_call 78; (with_reducible refine (Cr.out _ _ _ (HR.out.next HB) (own_rb o3)).mono ?_); rintro e W8 ⟨A6, c6, rfl, o6, hb⟩; have hgr := grown_of_below hb; have do3o6 := own_apart o3 o6 (Nat.le_refl _); have do5o6 := own_apart o5 o6 (Nat.le_refl _); replace o6 := own_mono o6 HB.size; replace hg1 := hg1.grown hgr (by simp); replace hg4 := hg4.grown hgr (by simp); replace o3 := o3.kept hgr (by cases Value.ownBlock _ <;> simp); replace o5 := o5.kept hgr (by cases Value.ownBlock _ <;> simp); replace HB := HB.grown hgr (by have := HB.size; omega) (by simp); replace hcg1 := hg1.cell; replace hfg1 := hg1.frozen; replace hcg4 := hg4.cell; replace hfg4 := hg4.frozen; clear hb hgr)
    | (go_at_call 53; (with_reducible refine (num3_calls _ _).mono ?_); rintro e w1 ⟨rfl, rfl⟩)
    | (go_at_call 79; (with_reducible refine (refAlike_true b _ _ _ _ _ (own_rb o5) (own_rb o6) (by omega)).mono ?_); rintro e W9 ⟨rfl, hb⟩; have hgr := grown_of_below hb; replace hg1 := hg1.grown hgr (by simp); replace hg4 := hg4.grown hgr (by simp); replace o3 := o3.kept hgr (by cases Value.ownBlock _ <;> simp); replace o5 := o5.kept hgr (by cases Value.ownBlock _ <;> simp); replace o6 := o6.kept hgr (by cases Value.ownBlock _ <;> simp); replace HB := HB.grown hgr (by have := HB.size; omega) (by simp); replace hcg1 := hg1.cell; replace hfg1 := hg1.frozen; replace hcg4 := hg4.cell; replace hfg4 := hg4.frozen; clear hb hgr)
    | ((with_reducible refine gate_dst (N := 54) rfl ?_); (first | (refine wpList_ungate ?_ ?_; focus (first | rfl | (simp [Region.wanted, yielded]; done))) | (refine wpList_ungate (by first | rfl | simp [Region.wanted, yielded]) ?_)); refine wpList_load_row rfl _ _ rfl g1 rfl _ _ (0, 0) _ hg1 Tryd.underlying35 rfl rec_size ?_)
    | ((with_reducible refine gate_dst (N := 55) rfl ?_); (first | (refine wpList_ungate ?_ ?_; focus (first | rfl | (simp [Region.wanted, yielded]; done))) | (refine wpList_ungate (by first | rfl | simp [Region.wanted, yielded]) ?_)); refine wpList_load_row rfl _ _ rfl g4 rfl _ _ (0, 0) _ hg4 Tryd.underlying35 rfl rec_size ?_)
    | (go_at_call 35; (with_reducible refine (same3 r _ _ _ _ _ (hd.next HB) (own_rb o3) hrl).mono ?_); rintro e W10 ⟨rfl, hb⟩; have hgr := grown_of_below hb; replace hg1 := hg1.grown hgr (by simp); replace hg4 := hg4.grown hgr (by simp); replace o3 := o3.kept hgr (by cases Value.ownBlock _ <;> simp); replace o5 := o5.kept hgr (by cases Value.ownBlock _ <;> simp); replace o6 := o6.kept hgr (by cases Value.ownBlock _ <;> simp); replace HB := HB.grown hgr (by have := HB.size; omega) (by simp); replace hcg1 := hg1.cell; replace hfg1 := hg1.frozen; replace hcg4 := hg4.cell; replace hfg4 := hg4.frozen; clear hb hgr))
  go_ret
  exact ⟨rfl, HB⟩
theorem recordWrites_calls (r : Rec) (A : Option Addr) (c : Nat) (hf : r.Fits) (hcd : -9223372036854775808 ≤ r.Code ∧ r.Code ≤ 9223372036854775807) (hz : r.Name.size ≤ 1099511627776) (w : World) (hT : Tabs w) (hR : RTabs w) (hd : RB w A r.Data) :
    Calls Tryd.prog 21 #[.agg (r.cells A c)] w fun e w' => e = .returned (.bool true) ∧ Below w.heap.size w w' := by
  by_cases hc : r.chk = 0
  · exact writes_good r A c hf hcd w hT hR hd hc
  · exact writes_bad r A c hf hz w hT hR hd hc
theorem ints_code {r : Rec} (h : r.Ints) : -9223372036854775808 ≤ r.Code ∧ r.Code ≤ 9223372036854775807 := by
  simpa [Lit.wf, IntKind.min, IntKind.max, IntKind.signed, IntKind.bits] using h.code
end Go.Proofs.YtjhiohjpkdjkoaaDoor
namespace Go.Proofs.YtjhiohjpkdjkoaaDoor
open Go.RowKit
attribute [local go_sem] Rec.size_ Rec.g0 Rec.g1 Rec.g2 Rec.g3 Rec.g4 Rec.g5 Rec.g6 Rec.g7 Rec.g8 Rec.g9 Rec.g10 Rec.g11 Rec.fold

/-! As in D4, which is not imported here. -/
namespace Three
section
variable {P : Program} {ops : Array Oper} {rest : List Oper} {o : Oper} {a : Act} {Q : Exit → Act → World → Prop} {W : World}
theorem run_loadVar_at (w : World) (ad : Addr) (ty : TypeId) (cs : Array Value) (d : TypeDesc) (hc : ∀ j v, cs[j]? = some v → w.cell? (ad.add j) = some v)
    (hu : P.underlying ty = some d) (hd : (match d with | .struct _ | .array _ _ => true | _ => false) = true) (hi : (P.info? ty).map (·.size) = some cs.size) :
    (loadVar ty ad).run P w = .ok (.agg cs) w := by
  have hl : (loadCells ad cs.toList.length).run P w = .ok cs.toList.toArray w := run_loadCells_list (P := P) w ad cs.toList (fun j v hv => hc j v (by simpa using hv))
  cases hq : P.info? ty with
  | none => simp [hq] at hi
  | some i =>
    have hs : i.size = cs.size := by simpa [hq] using hi
    have hz : (sizeOf ty).run P w = .ok cs.size w := by simp [sizeOf, typeInfo, hq, hs]
    have ha : (isAgg ty).run P w = .ok true w := by
      cases d <;> simp at hd <;> simp [isAgg, run_underlying hu]
    have hl' : (loadCells ad cs.size).run P w = .ok cs w := by simpa using hl
    simp [loadVar, ha, hz, hl', Sem.run_bind, Result.andThen]
theorem ev_load_at (hgd : o.guard = none) {ty : TypeId} {x : Operand} (ho : o.op = .load ty x) {ad : Addr} (hx : a.eval x = .pointer (some ad)) {cs : Array Value} {d : TypeDesc} (hc : ∀ j v, cs[j]? = some v → W.cell? (ad.add j) = some v)
    (hu : P.underlying ty = some d) (hd : (match d with | .struct _ | .array _ _ => true | _ => false) = true) (hi : (P.info? ty).map (·.size) = some cs.size)
    (h : wpList P ops Q rest (a.put o.dst (.agg cs)) W) : wpList P ops Q (o :: rest) a W := by
  refine ev_run hgd (w1 := W) (v := .agg cs) ?_ h
  simp [execOp, ho, hx, Instr.loadAt, Instr.sureAddr, run_loadVar_at W ad ty cs d hc hu hd hi]
end
end Three
open Three
/-- A step of layer 3: its call, two numbers, bytes, two records. -/
structure Step3 where
  n : Int
  v : Int
  k : Int
  l : List UInt8
  L : Option Addr
  cl : Nat
  a : Rec
  A : Option Addr
  ca : Nat
  b : Rec
  B : Option Addr
  cb : Nat
def Step3.cells (s : Step3) : Array Value :=
  #[.int .i64 s.n, .int .i64 s.v, .int .i64 s.k, .slice s.L s.l.length s.cl, .int .i64 s.a.V, .int .i64 s.a.Kind, .int .i64 s.a.Saga, .int .i64 s.a.Step, .int .i64 s.a.Try, .int .i64 s.a.At, .int .i64 s.a.Last, .int .i64 s.a.Code, .int .i64 s.a.Count, .int .i64 s.a.Pivot, .string s.a.Name, .slice s.A s.a.Data.length s.ca, .int .i64 s.b.V, .int .i64 s.b.Kind, .int .i64 s.b.Saga, .int .i64 s.b.Step, .int .i64 s.b.Try, .int .i64 s.b.At, .int .i64 s.b.Last, .int .i64 s.b.Code, .int .i64 s.b.Count, .int .i64 s.b.Pivot, .string s.b.Name, .slice s.B s.b.Data.length s.cb]
section
variable (s : Step3)
theorem st_size : s.cells.size = 28 := rfl
theorem st_0 : s.cells[0]? = some (.int .i64 s.n) := rfl
theorem st_1 : s.cells[1]? = some (.int .i64 s.v) := rfl
theorem st_2 : s.cells[2]? = some (.int .i64 s.k) := rfl
theorem st_3 : s.cells[3]? = some (.slice s.L s.l.length s.cl) := rfl
theorem st_a (j : Nat) (x : Value) (h : (s.a.cells s.A s.ca)[j]? = some x) : s.cells[4 + j]? = some x := by
  have hj : j < 12 := by have := (Array.getElem?_eq_some_iff.1 h).1; simpa [Rec.cells] using this
  obtain rfl | rfl | rfl | rfl | rfl | rfl | rfl | rfl | rfl | rfl | rfl | rfl : j = 0 ∨ j = 1 ∨ j = 2 ∨ j = 3 ∨ j = 4 ∨ j = 5 ∨ j = 6 ∨ j = 7 ∨ j = 8 ∨ j = 9 ∨ j = 10 ∨ j = 11 := by omega
  all_goals exact h
theorem st_b (j : Nat) (x : Value) (h : (s.b.cells s.B s.cb)[j]? = some x) : s.cells[16 + j]? = some x := by
  have hj : j < 12 := by have := (Array.getElem?_eq_some_iff.1 h).1; simpa [Rec.cells] using this
  obtain rfl | rfl | rfl | rfl | rfl | rfl | rfl | rfl | rfl | rfl | rfl | rfl : j = 0 ∨ j = 1 ∨ j = 2 ∨ j = 3 ∨ j = 4 ∨ j = 5 ∨ j = 6 ∨ j = 7 ∨ j = 8 ∨ j = 9 ∨ j = 10 ∨ j = 11 := by omega
  all_goals exact h
theorem st_one : s.cells.all (·.oneCell') = true := by simp [Step3.cells, Value.oneCell']
end
theorem st_size_ : (Tryd.prog.info? 57).map (·.size) = some 28 := by kernel_rfl
theorem st_load {w : World} {g : Nat} {t : TypeId} {s : Step3} (h : Blk w g t s.cells) : (∀ j v, (s.a.cells s.A s.ca)[j]? = some v → w.cell? ((⟨g, 4, none⟩ : Addr).add j) = some v) ∧ ∀ j v, (s.b.cells s.B s.cb)[j]? = some v → w.cell? ((⟨g, 16, none⟩ : Addr).add j) = some v := by
  refine ⟨fun j v hv => ?_, fun j v hv => ?_⟩
  · rw [show (⟨g, 4, none⟩ : Addr).add j = ⟨g, 4 + j, none⟩ by unfold Addr.add; split <;> simp_all, h.cell]
    exact st_a s j v hv
  · rw [show (⟨g, 16, none⟩ : Addr).add j = ⟨g, 16 + j, none⟩ by unfold Addr.add; split <;> simp_all, h.cell]
    exact st_b s j v hv
attribute [local go_sem] st_size st_0 st_1 st_2 st_3

/-- What a step asks. -/
structure Step3.Ok (s : Step3) : Prop where
  bytes : s.l.length ≤ 140737488351232
  fits : s.a.Fits
  name : s.a.Name.size ≤ 1099511627776
  code : -9223372036854775808 ≤ s.a.Code ∧ s.a.Code ≤ 9223372036854775807
  data : s.b.Data.length ≤ 140737488351232

set_option maxHeartbeats 4000000 in
set_option maxRecDepth 100000 in
theorem plays3_calls (s : Step3) (hs : s.Ok) (w : World) (hT : Tabs w) (hR : RTabs w) (hl : RB w s.L s.l) (ha : RB w s.A s.a.Data) (hb : RB w s.B s.b.Data) :
    Calls Tryd.prog 51 #[.agg s.cells] w fun e w' => e = .returned (.bool true) ∧ Below w.heap.size w w' := by
  have HB := Below.refl w.heap.size w
  have HT := Lib.hid hT
  have HR := Lib.hid hR
  have Hs := Lib.hid hs
  have Hl := Lib.hid hl
  have Ha := Lib.hid ha
  have Hb := Lib.hid hb
  clear hT hR hs hl ha hb
  by_cases h1 : s.n = 1
  · have t1 : (s.n == 1) = true := int_beq_true h1
    clear h1
    go_enter Tryd.func51, Tryd.ntmps51
    go_wp2_with (first
      | ((with_reducible refine gate_dst (N := 1) rfl ?_); refine ev_box rfl rfl (s.cells) rfl ?_; intro g1 W1 hg1 hsz hbn; have hgr := grown_of_below hbn; have zg1 : w.heap.size ≤ g1 := (by have := HB.size; omega); replace HB := HB.grown hgr (by have := HB.size; omega) (by simp); have hcg1 := hg1.cell; have hfg1 := hg1.frozen; clear hsz hbn hgr)
      | (go_at_call 3; (with_reducible refine (recordFields_calls _ _ _ (HT.out.next HB).may (HR.out.next HB).rows).mono ?_); rintro e W2 ⟨rfl, hb⟩; have hgr := grown_of_below hb; replace hg1 := hg1.grown hgr (by simp); replace HB := HB.grown hgr (by have := HB.size; omega) (by simp); replace hcg1 := hg1.cell; replace hfg1 := hg1.frozen; clear hb hgr))
    go_ret
    exact ⟨rfl, HB⟩
  have t1 : (s.n == 1) = false := int_beq_false h1
  clear h1
  by_cases h2 : s.n = 2
  · have t2 : (s.n == 2) = true := int_beq_true h2
    clear h2
    go_enter Tryd.func51, Tryd.ntmps51
    go_wp2_with (first
      | ((with_reducible refine gate_dst (N := 1) rfl ?_); refine ev_box rfl rfl (s.cells) rfl ?_; intro g1 W1 hg1 hsz hbn; have hgr := grown_of_below hbn; have zg1 : w.heap.size ≤ g1 := (by have := HB.size; omega); replace HB := HB.grown hgr (by have := HB.size; omega) (by simp); have hcg1 := hg1.cell; have hfg1 := hg1.frozen; clear hsz hbn hgr)
      | ((with_reducible refine gate_dst (N := 15) rfl ?_); refine ev_load_at rfl rfl rfl (st_load hg1).1 Tryd.underlying35 rfl rec_size ?_)
      | (go_at_call 20; (with_reducible refine (recordChecks_calls s.a s.A s.ca Hs.out.fits Hs.out.name _ (HT.out.next HB) (HR.out.next HB) (Ha.out.next HB)).mono ?_); rintro e W2 ⟨rfl, hb⟩; have hgr := grown_of_below hb; replace hg1 := hg1.grown hgr (by simp); replace HB := HB.grown hgr (by have := HB.size; omega) (by simp); replace hcg1 := hg1.cell; replace hfg1 := hg1.frozen; clear hb hgr))
    go_ret
    exact ⟨rfl, HB⟩
  have t2 : (s.n == 2) = false := int_beq_false h2
  clear h2
  by_cases h3 : s.n = 3
  · have t3 : (s.n == 3) = true := int_beq_true h3
    clear h3
    go_enter Tryd.func51, Tryd.ntmps51
    go_wp2_with (first
      | ((with_reducible refine gate_dst (N := 1) rfl ?_); refine ev_box rfl rfl (s.cells) rfl ?_; intro g1 W1 hg1 hsz hbn; have hgr := grown_of_below hbn; have zg1 : w.heap.size ≤ g1 := (by have := HB.size; omega); replace HB := HB.grown hgr (by have := HB.size; omega) (by simp); have hcg1 := hg1.cell; have hfg1 := hg1.frozen; clear hsz hbn hgr)
      | ((with_reducible refine gate_dst (N := 20) rfl ?_); refine ev_load_at rfl rfl rfl (st_load hg1).1 Tryd.underlying35 rfl rec_size ?_)
      | (go_at_call 21; (with_reducible refine (recordWrites_calls s.a s.A s.ca Hs.out.fits Hs.out.code Hs.out.name _ (HT.out.next HB) (HR.out.next HB) (Ha.out.next HB)).mono ?_); rintro e W2 ⟨rfl, hb⟩; have hgr := grown_of_below hb; replace hg1 := hg1.grown hgr (by simp); replace HB := HB.grown hgr (by have := HB.size; omega) (by simp); replace hcg1 := hg1.cell; replace hfg1 := hg1.frozen; clear hb hgr))
    go_ret
    exact ⟨rfl, HB⟩
  have t3 : (s.n == 3) = false := int_beq_false h3
  clear h3
  by_cases h4 : s.n = 4
  · have t4 : (s.n == 4) = true := int_beq_true h4
    clear h4
    go_enter Tryd.func51, Tryd.ntmps51
    go_wp2_with (first
      | ((with_reducible refine gate_dst (N := 1) rfl ?_); refine ev_box rfl rfl (s.cells) rfl ?_; intro g1 W1 hg1 hsz hbn; have hgr := grown_of_below hbn; have zg1 : w.heap.size ≤ g1 := (by have := HB.size; omega); replace HB := HB.grown hgr (by have := HB.size; omega) (by simp); have hcg1 := hg1.cell; have hfg1 := hg1.frozen; clear hsz hbn hgr)
      | (go_at_call 22; (with_reducible refine (recordReads_calls _ s.l s.L s.cl Hs.out.bytes _ (HT.out.next HB) (HR.out.next HB) (Hl.out.next HB)).mono ?_); rintro e W2 ⟨rfl, hb⟩; have hgr := grown_of_below hb; replace hg1 := hg1.grown hgr (by simp); replace HB := HB.grown hgr (by have := HB.size; omega) (by simp); replace hcg1 := hg1.cell; replace hfg1 := hg1.frozen; clear hb hgr))
    go_ret
    exact ⟨rfl, HB⟩
  have t4 : (s.n == 4) = false := int_beq_false h4
  clear h4
  by_cases h5 : s.n = 5
  · have t5 : (s.n == 5) = true := int_beq_true h5
    clear h5
    go_enter Tryd.func51, Tryd.ntmps51
    go_wp2_with (first
      | ((with_reducible refine gate_dst (N := 1) rfl ?_); refine ev_box rfl rfl (s.cells) rfl ?_; intro g1 W1 hg1 hsz hbn; have hgr := grown_of_below hbn; have zg1 : w.heap.size ≤ g1 := (by have := HB.size; omega); replace HB := HB.grown hgr (by have := HB.size; omega) (by simp); have hcg1 := hg1.cell; have hfg1 := hg1.frozen; clear hsz hbn hgr)
      | ((with_reducible refine gate_dst (N := 32) rfl ?_); refine ev_load_at rfl rfl rfl (st_load hg1).1 Tryd.underlying35 rfl rec_size ?_)
      | ((with_reducible refine gate_dst (N := 34) rfl ?_); refine ev_load_at rfl rfl rfl (st_load hg1).2 Tryd.underlying35 rfl rec_size ?_)
      | (go_at_call 94; (with_reducible refine (looks_calls s.a s.b s.A s.B s.ca s.cb _ (Ha.out.next HB) (Hb.out.next HB) Hs.out.fits.data Hs.out.data).mono ?_); rintro e W2 ⟨rfl, hb⟩; have hgr := grown_of_below hb; replace hg1 := hg1.grown hgr (by simp); replace HB := HB.grown hgr (by have := HB.size; omega) (by simp); replace hcg1 := hg1.cell; replace hfg1 := hg1.frozen; clear hb hgr))
    go_ret
    exact ⟨rfl, HB⟩
  have t5 : (s.n == 5) = false := int_beq_false h5
  clear h5
  go_enter Tryd.func51, Tryd.ntmps51
  go_wp2_with (first
    | ((with_reducible refine gate_dst (N := 1) rfl ?_); refine ev_box rfl rfl (s.cells) rfl ?_; intro g1 W1 hg1 hsz hbn; have hgr := grown_of_below hbn; have zg1 : w.heap.size ≤ g1 := (by have := HB.size; omega); replace HB := HB.grown hgr (by have := HB.size; omega) (by simp); have hcg1 := hg1.cell; have hfg1 := hg1.frozen; clear hsz hbn hgr))
  go_ret
  exact ⟨rfl, HB⟩
end Go.Proofs.YtjhiohjpkdjkoaaDoor
namespace Go.Proofs.YtjhiohjpkdjkoaaDoor
open Go.ChangeShapes Go.WideShapes Go.ChangeAt Go.RowKit Go.Deep Three

def stCells (l : List Step3) : List Value := l.flatMap fun s => s.cells.toList
theorem st_len (s : Step3) : s.cells.toList.length = 28 := by simp [Step3.cells]
theorem stCells_length (l : List Step3) : (stCells l).length = l.length * 28 := by
  unfold stCells
  induction l with
  | nil => rfl
  | cons x l ih => simp only [List.flatMap_cons, List.length_append, ih, List.length_cons, st_len]; omega
theorem stCells_at : ∀ {l : List Step3} {k : Nat} {x : Step3}, l[k]? = some x → ((stCells l).drop (k * 28)).take 28 = x.cells.toList
  | [], k, x, h => by simp at h
  | y :: l, 0, x, h => by
    simp at h
    subst h
    have e : stCells (y :: l) = y.cells.toList ++ stCells l := by simp [stCells]
    rw [e, Nat.zero_mul, List.drop_zero, List.take_append_of_le_length (Nat.le_of_eq (st_len y).symm), List.take_of_length_le (Nat.le_of_eq (st_len y))]
  | y :: l, k + 1, x, h => by
    have := stCells_at (l := l) (k := k) (x := x) (by simpa using h)
    rw [← this]
    have e : stCells (y :: l) = y.cells.toList ++ stCells l := by simp [stCells]
    rw [e, List.drop_append, st_len, List.drop_eq_nil_of_le (by rw [st_len]; omega), show (k + 1) * 28 - 28 = k * 28 by omega]
    rfl
theorem stCells_get {l : List Step3} {k : Nat} {x : Step3} (h : l[k]? = some x) (i : Nat) (hi : i < 28) : (stCells l)[k * 28 + i]? = x.cells[i]? := by
  have := stCells_at h
  rw [show x.cells[i]? = x.cells.toList[i]? by simp, ← this, List.getElem?_take, if_pos hi, List.getElem?_drop]
/-- The steps lie at A. -/
structure SR (w : World) (A : Option Addr) (l : List Step3) : Prop where
  row : Reads w w.heap.size 28 A l.length (stCells l)
  bytes : ∀ x ∈ l, RB w x.L x.l
  one : ∀ x ∈ l, RB w x.A x.a.Data
  two : ∀ x ∈ l, RB w x.B x.b.Data
theorem SR.next {w w' : World} {A : Option Addr} {l : List Step3} (h : SR w A l) (hb : Below w.heap.size w w') : SR w' A l := ⟨Reads.next h.row hb, fun x hx => (h.bytes x hx).next hb, fun x hx => (h.one x hx).next hb, fun x hx => (h.two x hx).next hb⟩
theorem SR.load {w : World} {A : Option Addr} {l : List Step3} (h : SR w A l) {k : Nat} {x : Step3} (hx : l[k]? = some x) {ad : Addr} (he : A = some ad) : ∀ j v, x.cells[j]? = some v → w.cell? ((ad.add (k * 28)).add j) = some v := by
  have hk : k < l.length := (List.getElem?_eq_some_iff.1 hx).1
  obtain ⟨ad', e, _, hc⟩ := h.row.2 (by omega)
  rw [he] at e
  injection e with e
  subst e
  intro j v hv
  have hj : j < 28 := by have := (Array.getElem?_eq_some_iff.1 hv).1; rwa [st_size] at this
  rw [add_of_add]
  exact hc _ _ (by rw [stCells_get hx j hj]; exact hv)

section
variable {H : Type} {enc : TypeId × Value → H} {w : World} {base : Nat} {spare : Nat → Bool} {held : Bool}
theorem bulk_pos (d : DataW H) : 1 ≤ Rows.uptoBulk d := by
  cases d with
  | lit v => cases v <;> simp [Rows.uptoBulk]
  | _ => simp [Rows.uptoBulk]
theorem bulk_len : ∀ ds : List (DataW H), ds.length ≤ Rows.uptoBulkAll ds
  | [] => by simp
  | d :: ds => by
    have := bulk_len ds
    have := bulk_pos d
    simp only [Rows.uptoBulkAll, List.length_cons]
    omega
/-- A record is not larger than its bulk. -/
theorem rec_bulk {r : Rec} {dd : DataW H} {N : Nat} (hd : (dd = .nil ∧ r.Data = []) ∨ ∃ sp, dd = .slice (u8d r.Data) sp) (h : Rows.uptoBulk (recd r dd) ≤ N) : r.Name.size ≤ N ∧ r.Data.length ≤ N := by
  have h3 : r.Name.data.toList.length ≤ Rows.uptoBulk (recd r dd) := by
    simp only [recd, Rows.uptoBulk, Rows.uptoBulkAll]
    omega
  have h4 : Rows.uptoBulk dd ≤ Rows.uptoBulk (recd r dd) := by
    simp only [recd, Rows.uptoBulk, Rows.uptoBulkAll]
    omega
  have e : r.Name.size = r.Name.data.toList.length := rfl
  refine ⟨by omega, ?_⟩
  rcases hd with ⟨_, h0⟩ | ⟨sp, rfl⟩
  · rw [h0]
    simp
  · have := bulk_len (u8d (H := H) r.Data)
    rw [u8d_length] at this
    simp only [Rows.uptoBulk] at h4
    omega
theorem bytes_bulk {l : List UInt8} {dd : DataW H} {N : Nat} (hd : (dd = .nil ∧ l = []) ∨ ∃ sp, dd = .slice (u8d l) sp) (h : Rows.uptoBulk dd ≤ N) : l.length ≤ N := by
  rcases hd with ⟨_, h0⟩ | ⟨sp, rfl⟩
  · rw [h0]
    simp
  · have := bulk_len (u8d (H := H) l)
    rw [u8d_length] at this
    simp only [Rows.uptoBulk] at h
    omega
theorem list28 {α : Type} {l : List α} (h : l.length = 28) : ∃ a b c d m n, l = [a, b, c, d] ++ m ++ n ∧ m.length = 12 ∧ n.length = 12 := by
  match l, h with
  | a :: b :: c :: d :: l, h => exact ⟨a, b, c, d, l.take 12, l.drop 12, by simp, by simp at h ⊢; omega, by simp at h ⊢; omega⟩
theorem list6 {α : Type} {l : List α} (h : l.length = 6) : ∃ a b c d e f, l = [a, b, c, d, e, f] := by
  match l, h with
  | [a, b, c, d, e, f], _ => exact ⟨a, b, c, d, e, f, rfl⟩
theorem cells_st : Tryd.prog.cellsOf 57 = 28 := by kernel_rfl
/-- A step. -/
theorem trod_st {fuel : Nat} {cs : List Value} {x : DataW H × List MemPlace} (h : DataW.trod enc Tryd.prog w base spare held fuel 57 cs = some x) :
    ∃ s : Step3, cs = s.cells.toList ∧ RB w s.L s.l ∧ RB w s.A s.a.Data ∧ RB w s.B s.b.Data ∧ (Rows.uptoBulk x.1 ≤ 1048576 → s.Ok) := by
  obtain ⟨xs, n, _, hx, hcl, hlen, hg⟩ := DataW.trod_struct Tryd.underlying57 h
  rw [cells_st] at hcl
  obtain ⟨c0, c1, c2, c3, m, n', rfl, hm, hn'⟩ := list28 hcl
  obtain ⟨y0, y1, y2, y3, y4, y5, rfl⟩ := list6 (l := xs) hlen
  have ci : Tryd.prog.cellsOf 3 = 1 := by kernel_rfl
  have cr : Tryd.prog.cellsOf 35 = 12 := cells_rec
  have cb : Tryd.prog.cellsOf 33 = 1 := by kernel_rfl
  obtain ⟨k0, e0, z0, f0⟩ := DataW.trod_int Tryd.underlying3 (by simpa [ci] using hg 0 _ rfl)
  obtain ⟨k1, e1, z1, f1⟩ := DataW.trod_int Tryd.underlying3 (by simpa [ci] using hg 1 _ rfl)
  obtain ⟨k2, e2, z2, f2⟩ := DataW.trod_int Tryd.underlying3 (by simpa [ci] using hg 2 _ rfl)
  obtain ⟨L, l, cl, e3, hb, _, hd3⟩ := trod_bytes (by simpa [ci, cb] using hg 3 _ rfl)
  have d4 : List.take 12 (List.drop 4 ([c0, c1, c2, c3] ++ m ++ n')) = m := by
    rw [List.append_assoc]
    show List.take 12 (m ++ n') = m
    rw [← hm, List.take_left]
  have d5 : List.take 12 (List.drop 16 ([c0, c1, c2, c3] ++ m ++ n')) = n' := by
    rw [List.append_assoc]
    show List.take 12 (List.drop 12 (m ++ n')) = n'
    rw [show List.drop 12 (m ++ n') = n' by rw [← hm, List.drop_left], ← hn', List.take_length]
  have g4 : DataW.trod enc Tryd.prog w base spare held n 35 (List.take (Tryd.prog.cellsOf 35) (List.drop 4 ([c0, c1, c2, c3] ++ m ++ n'))) = some y4 := hg 4 _ rfl
  have g5 : DataW.trod enc Tryd.prog w base spare held n 35 (List.take (Tryd.prog.cellsOf 35) (List.drop 16 ([c0, c1, c2, c3] ++ m ++ n'))) = some y5 := hg 5 _ rfl
  rw [cr, d4] at g4
  rw [cr, d5] at g5
  obtain ⟨a, A, ca, da, e4, ha, _, hi, z4, hda⟩ := trod_rec g4
  obtain ⟨b, B, cb', db, e5, hb5, _, _, z5, hdb⟩ := trod_rec g5
  simp only [List.cons.injEq, and_true] at e0 e1 e2 e3
  refine ⟨⟨k0, k1, k2, l, L, cl, a, A, ca, b, B, cb'⟩, ?_, hb, ha, hb5, fun hbulk => ?_⟩
  · rw [e4, e5]
    subst e0 e1 e2 e3
    rfl
  · rw [hx] at hbulk
    simp only [Rows.uptoBulk, List.map_cons, List.map_nil, Rows.uptoBulkAll] at hbulk
    have q3 := bytes_bulk hd3 (N := 1048576) (by omega)
    have q4 := rec_bulk hda (N := 1048576) (by rw [← z4]; omega)
    have q5 := rec_bulk hdb (N := 1048576) (by rw [← z5]; omega)
    exact ⟨show l.length ≤ _ by omega, ⟨show a.Name.size ≤ _ by omega, show a.Data.length ≤ _ by omega⟩, show a.Name.size ≤ _ by omega, ints_code hi, show b.Data.length ≤ _ by omega⟩
/-- A script. -/
theorem trod_sts {fuel : Nat} {cs : List Value} {x : DataW H × List MemPlace} (h : DataW.trod enc Tryd.prog w base spare held fuel 54 cs = some x) :
    ∃ (A : Option Addr) (l : List Step3) (c : Nat), cs = [.slice A l.length c] ∧ SR w A l ∧ (Rows.uptoBulk x.1 ≤ 1048576 → l.length ≤ 1048576 ∧ ∀ s ∈ l, s.Ok) := by
  rcases open_slice Tryd.underlying54 h with ⟨rfl, rfl⟩ | ⟨a, len, cap, m, n, D, Pl, rfl, hb, hl, hm, hmm, rfl, hx⟩
  · exact ⟨none, [], 0, rfl, ⟨Reads.none_, (fun x hx => by cases hx), (fun x hx => by cases hx), (fun x hx => by cases hx)⟩, fun _ => ⟨by simp, (fun y hy => by cases hy)⟩⟩
  · have hlm : len ≤ m := by rw [hmm]; split <;> omega
    have hall : ∀ i, i < len → ∃ y : Step3, w.cells? base (a.add (i * 28)) 28 = some y.cells.toList ∧ RB w y.L y.l ∧ RB w y.A y.a.Data ∧ RB w y.B y.b.Data ∧ (Rows.uptoBulk (D i) ≤ 1048576 → y.Ok) := by
      intro i hi
      obtain ⟨cs', h1, h2⟩ := hx i (by omega)
      rw [cells_st] at h1
      obtain ⟨s, rfl, b1, b2, b3, b4⟩ := trod_st h2
      exact ⟨s, h1, b1, b2, b3, b4⟩
    haveI : Inhabited Step3 := ⟨⟨0, 0, 0, [], none, 0, Rec.zero, none, 0, Rec.zero, none, 0⟩⟩
    obtain ⟨f, hf⟩ := choose_lt hall
    refine ⟨some a, (List.range len).map f, cap, by simp, ⟨⟨by rw [stCells_length], fun hn => ⟨a, rfl, ?_, ?_⟩⟩, ?_, ?_, ?_⟩, ?_⟩
    · simp at hn
      obtain ⟨h1, _⟩ := hf 0 hn
      obtain ⟨_, _, h3⟩ := World.cells?_some h1
      have := World.block_lt_of_cell? w _ ((h3 0 (by omega)).trans (by simp [Step3.cells]; rfl))
      rw [block_of_add, block_of_add] at this
      exact this
    · intro j u hu
      have hj : j < len * 28 := by
        have := (List.getElem?_eq_some_iff.1 hu).1
        rw [stCells_length] at this
        simpa using this
      have hk : j / 28 < len := by omega
      have hg : ((List.range len).map f)[j / 28]? = some (f (j / 28)) := by rw [List.getElem?_map, List.getElem?_range hk]; rfl
      have hr := stCells_get hg (j % 28) (by omega)
      rw [show j / 28 * 28 + j % 28 = j by omega, hu] at hr
      obtain ⟨h1, _⟩ := hf _ hk
      obtain ⟨_, _, h3⟩ := World.cells?_some h1
      have := h3 (j % 28) (by omega)
      rw [add_of_add, show j / 28 * 28 + j % 28 = j by omega, show ∀ i, (f (j / 28)).cells.toList[i]? = (f (j / 28)).cells[i]? by intro i; simp, ← hr] at this
      exact this
    · intro x hx
      obtain ⟨i, hi, rfl⟩ := List.mem_map.1 hx
      exact (hf i (by simpa using hi)).2.1
    · intro x hx
      obtain ⟨i, hi, rfl⟩ := List.mem_map.1 hx
      exact (hf i (by simpa using hi)).2.2.1
    · intro x hx
      obtain ⟨i, hi, rfl⟩ := List.mem_map.1 hx
      exact (hf i (by simpa using hi)).2.2.2.1
    · intro hN
      have hD : Rows.uptoBulkAll ((List.range len).map D) ≤ 1048576 := by
        simp only [Rows.uptoBulk] at hN
        omega
      constructor
      · have := bulk_len ((List.range len).map D)
        simp at this ⊢
        omega
      · intro y hy
        obtain ⟨i, hi, rfl⟩ := List.mem_map.1 hy
        have hi' : i < len := by simpa using hi
        refine (hf i hi').2.2.2.2 ?_
        have := bulk_mem (ds := (List.range len).map D) (d := D i) (List.mem_map.2 ⟨i, by simpa using hi', rfl⟩)
        omega
end
attribute [local go_sem] Rec.size_ Rec.g0 Rec.g1 Rec.g2 Rec.g3 Rec.g4 Rec.g5 Rec.g6 Rec.g7 Rec.g8 Rec.g9 Rec.g10 Rec.g11 Rec.fold st_size st_0 st_1 st_2 st_3
set_option maxHeartbeats 4000000 in
set_option maxRecDepth 100000 in
theorem recordPlays_calls (L : List Step3) (A : Option Addr) (c : Nat) (hL : L.length ≤ 1048576) (hp : ∀ s ∈ L, s.Ok) (w : World) (hT : Tabs w) (hR : RTabs w) (ho : SR w A L) :
    Calls Tryd.prog 9 #[.slice A L.length c] w fun e w' => e = .returned (.bool true) ∧ Below w.heap.size w w' := by
  have HB := Below.refl w.heap.size w
  have HT := Lib.hid hT
  have HR := Lib.hid hR
  have Ho := Lib.hid ho
  have Hp := Lib.hid hp
  clear hT hR ho hp
  go_enter Tryd.func9, Tryd.ntmps9
  go_wp2_with (first
    | (go_at_call 36; (with_reducible refine (started3_calls _ (HT.out.next HB)).mono ?_); rintro e W1 ⟨rfl, hb⟩; have hgr := grown_of_below hb; replace HB := HB.grown hgr (by have := HB.size; omega) (by simp); clear hb hgr))
  go_loopg [3, 4] L.length (fun m v3 v4 wr => ∃ i : Nat, m + i = L.length ∧ v4 = .int .i64 i ∧ v3 = .bool true ∧ Aside (Below w.heap.size w wr))
  case atStart => exact ⟨0, by omega, rfl, rfl, HB⟩
  case round =>
    clear HB
    obtain ⟨i, hm, rfl, rfl, HA⟩ := hrel
    have HB := HA.out
    clear HA
    by_cases hlt : i < L.length
    · have s1 : decide ((i : Int) < (L.length : Int)) = true := by rw [decide_eq_true_eq]; omega
      have s1' : decide (i < L.length) = true := by rw [decide_eq_true_eq]; exact hlt
      obtain ⟨s, hs⟩ : ∃ s, L[i]? = some s := ⟨L[i], List.getElem?_eq_getElem hlt⟩
      have hsp := Hp.out _ (List.mem_of_getElem? hs)
      have h1 : RB w s.L s.l := Ho.out.bytes _ (List.mem_of_getElem? hs)
      have h2 : RB w s.A s.a.Data := Ho.out.one _ (List.mem_of_getElem? hs)
      have h3 : RB w s.B s.b.Data := Ho.out.two _ (List.mem_of_getElem? hs)
      obtain ⟨ad, had, _, _⟩ := Ho.out.row.2 (by omega)
      have hld := fun (W : World) (hb : Below w.heap.size w W) => (Ho.out.next hb).load hs had
      have Hld := Lib.hid hld
      subst had
      have cp := fun w => plays3_calls s hsp w
      have Cp := Lib.hid cp
      clear hs hld cp hsp
      go_wp2_with (first
        | ((with_reducible refine gate_dst (N := 18) rfl ?_); refine ev_load_at rfl rfl rfl (Hld.out _ HB) Tryd.underlying57 rfl st_size_ ?_)
        | (go_at_call 51; (with_reducible refine (Cp.out _ (HT.out.next HB) (HR.out.next HB) (h1.next HB) (h2.next HB) (h3.next HB)).mono ?_); rintro e W1 ⟨rfl, hb⟩; have hgr := grown_of_below hb; replace HB := HB.grown hgr (by have := HB.size; omega) (by simp); clear hb hgr))
      go_roundg (gk - 1)
      case measure => omega
      case rel => exact ⟨i + 1, by omega, by go_num, rfl, HB⟩
    · have s1 : decide ((i : Int) < (L.length : Int)) = false := by rw [decide_eq_false_iff_not]; omega
      have s1' : decide (i < L.length) = false := by rw [decide_eq_false_iff_not]; exact hlt
      go_wp2
      go_ret
      exact ⟨rfl, HB⟩
end Go.Proofs.YtjhiohjpkdjkoaaDoor
