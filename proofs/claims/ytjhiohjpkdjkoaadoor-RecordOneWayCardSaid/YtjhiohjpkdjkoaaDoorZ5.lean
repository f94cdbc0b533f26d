/-
  The walk of the law RecordOneWay.
-/
import Derived.Test.YtjhiohjpkdjkoaaDoorZ2
import Derived.Test.YtjhiohjpkdjkoaaDoorZ3
import Derived.Test.YtjhiohjpkdjkoaaDoorY3
set_option linter.unusedVariables false
set_option linter.unusedSimpArgs false
namespace Go.Proofs.YtjhiohjpkdjkoaaDoor
open Go.RowKit
attribute [local go_sem] Rec.size_ Rec.g0 Rec.g1 Rec.g2 Rec.g3 Rec.g4 Rec.g5 Rec.g6 Rec.g7 Rec.g8 Rec.g9 Rec.g10 Rec.g11 Rec.fold

set_option maxHeartbeats 4000000 in
set_option maxRecDepth 100000 in
theorem recordOneWay_calls (v : Int) (l : List UInt8) (L : Option Addr) (cl : Nat) (hl : l.length ≤ 140737488351232) (w : World) (hT : Tabs w) (hd : RB w L l) :
    Calls Tryd.prog 23 #[.int .i64 v, .slice L l.length cl] w fun e w' => e = .returned (.bool true) ∧ Below w.heap.size w w' := by
  have HB := Below.refl w.heap.size w
  have HT := Lib.hid hT
  have cd := fun L cl hcl w hT hd => decode_calls v l L cl hcl hl w hT hd
  unfold DecSaid at cd
  by_cases h0 : decE v l = 0
  · obtain ⟨e1, e2, e3, e4⟩ := enc_of_dec h0
    rw [h0] at cd
    have hf : (decR v l).Fits := by
      obtain ⟨s1, s2⟩ := valid_small e2
      exact ⟨by omega, by omega⟩
    have cc := fun A c w => check_calls (decR v l) A c hf w
    have ce := fun A c w hT hd => encode_calls (decR v l) A c hf w hT hd e2
    rw [e1] at ce
    rw [e2] at cc
    generalize decR v l = r at cd cc ce e3
    have t1 : (r.V == v) = true := int_beq_true e3
    have Cd := Lib.hid cd
    have Cc := Lib.hid cc
    have Ce := Lib.hid ce
    clear hT cd cc ce h0 e1 e2 e3 e4
    go_enter Tryd.func23, Tryd.ntmps23
    go_wp2_with (first
      | (go_at_call 36; (with_reducible refine (started3_calls _ (HT.out.next HB)).mono ?_); rintro e W1 ⟨rfl, hb⟩; have hgr := grown_of_below hb; replace HB := HB.grown hgr (by have := HB.size; omega) (by simp); clear hb hgr)
      | (go_at_call 39; (with_reducible refine (copied_calls l L cl hl _ (hd.next HB)).mono ?_); rintro e W2 ⟨A3, c3, rfl, o3, hb⟩; have hgr := grown_of_below hb; replace o3 := own_mono o3 HB.size; replace HB := HB.grown hgr (by have := HB.size; omega) (by simp); clear hb hgr)
      | (go_at_call 52; (with_reducible refine (Cd.out _ _ (own_room o3) _ (HT.out.next HB) (own_rb o3)).mono ?_); rintro e W3 ⟨A6, c6, rfl, o6, hb⟩; have hgr := grown_of_below hb; have do3o6 := own_apart o3 o6 (Nat.le_refl _); replace o6 := own_mono o6 HB.size; replace o3 := o3.kept hgr (by cases Value.ownBlock _ <;> simp); replace HB := HB.grown hgr (by have := HB.size; omega) (by simp); clear hb hgr)
      | ((with_reducible refine gate_dst (N := 6) rfl ?_); refine ev_alloc rfl rfl _ rec_zero ?_; intro g6 W4 hg6 hsz hbn; have hgr := grown_of_below hbn; replace hg6 : Blk W4 g6 _ (Rec.zero.cells none 0) := hg6; have zg6 : w.heap.size ≤ g6 := (by have := HB.size; omega); replace o6 := o6.kept hgr (by cases Value.ownBlock _ <;> simp); replace HB := HB.grown hgr (by have := HB.size; omega) (by simp); have hcg6 := hg6.cell; have hfg6 := hg6.frozen; clear hsz hbn hgr)
      | ((with_reducible refine gate_store (p := 6) rfl ?_); refine ev_store_row (cs := r.cells A6 c6) rfl rfl rfl hg6 rfl rfl rec_size rfl (cells_one _ _ _) ?_; intro W5 hgn hgr; replace o6 := o6.kept hgr (.inr (own_blk_ne o6 hg6 (by decide))); replace HB := HB.grown hgr (by have := HB.size; omega) (by intro k e; injection e with e; omega); replace hg6 := hgn; replace hcg6 := hg6.cell; replace hfg6 := hg6.frozen; clear hgn hgr)
      | (go_at_call 53; (with_reducible refine (num3_calls _ _).mono ?_); rintro e w1 ⟨rfl, rfl⟩)
      | ((with_reducible refine gate_dst (N := 26) rfl ?_); refine wpList_load_row rfl _ _ rfl g6 rfl _ _ (0, 0) _ hg6 Tryd.underlying35 rfl rec_size ?_)
      | (go_at_call 76; (with_reducible refine (Ce.out _ _ _ (HT.out.next HB) (own_rb o6)).mono ?_); rintro e W6 ⟨A8, c8, rfl, o8, hb⟩; have hgr := grown_of_below hb; have do6o8 := own_apart o6 o8 (Nat.le_refl _); replace o8 := own_mono o8 HB.size; replace hg6 := hg6.grown hgr (by simp); replace o6 := o6.kept hgr (by cases Value.ownBlock _ <;> simp); replace HB := HB.grown hgr (by have := HB.size; omega) (by simp); replace hcg6 := hg6.cell; replace hfg6 := hg6.frozen; clear hb hgr)
      | ((with_reducible refine gate_dst (N := 40) rfl ?_); (first | (refine wpList_ungate ?_ ?_; focus (first | rfl | (simp [Region.wanted, yielded]; done))) | (refine wpList_ungate (by first | rfl | simp [Region.wanted, yielded]) ?_)); refine wpList_load_row rfl _ _ rfl g6 rfl _ _ (0, 0) _ hg6 Tryd.underlying35 rfl rec_size ?_)
      | (go_at_call 75; (with_reducible refine (Cc.out _ _ _ (HT.out.next HB) (own_rb o6)).mono ?_); rintro e W7 ⟨rfl, hb⟩; have hgr := grown_of_below hb; replace hg6 := hg6.grown hgr (by simp); replace o6 := o6.kept hgr (by cases Value.ownBlock _ <;> simp); replace o8 := o8.kept hgr (by cases Value.ownBlock _ <;> simp); replace HB := HB.grown hgr (by have := HB.size; omega) (by simp); replace hcg6 := hg6.cell; replace hfg6 := hg6.frozen; clear hb hgr)
      | (go_at_call 83; (with_reducible refine (alike_same l A8 L c8 cl _ (own_rb o8) (hd.next HB) hl).mono ?_); rintro e W8 ⟨rfl, hb⟩; have hgr := grown_of_below hb; replace hg6 := hg6.grown hgr (by simp); replace o6 := o6.kept hgr (by cases Value.ownBlock _ <;> simp); replace o8 := o8.kept hgr (by cases Value.ownBlock _ <;> simp); replace HB := HB.grown hgr (by have := HB.size; omega) (by simp); replace hcg6 := hg6.cell; replace hfg6 := hg6.frozen; clear hb hgr))
    go_ret
    exact ⟨rfl, HB⟩
  · have e2 : decR v l = Rec.zero := if_neg h0
    rw [e2] at cd
    have t1 := int_bne_true h0
    generalize decE v l = k at cd t1
    have Cd := Lib.hid cd
    clear hT cd h0 e2
    go_enter Tryd.func23, Tryd.ntmps23
    go_wp2_with (first
      | (go_at_call 36; (with_reducible refine (started3_calls _ (HT.out.next HB)).mono ?_); rintro e W1 ⟨rfl, hb⟩; have hgr := grown_of_below hb; replace HB := HB.grown hgr (by have := HB.size; omega) (by simp); clear hb hgr)
      | (go_at_call 39; (with_reducible refine (copied_calls l L cl hl _ (hd.next HB)).mono ?_); rintro e W2 ⟨A3, c3, rfl, o3, hb⟩; have hgr := grown_of_below hb; replace o3 := own_mono o3 HB.size; replace HB := HB.grown hgr (by have := HB.size; omega) (by simp); clear hb hgr)
      | (go_at_call 52; (with_reducible refine (Cd.out _ _ (own_room o3) _ (HT.out.next HB) (own_rb o3)).mono ?_); rintro e W3 ⟨A6, c6, rfl, o6, hb⟩; have hgr := grown_of_below hb; replace o3 := o3.kept hgr (by cases Value.ownBlock _ <;> simp); replace HB := HB.grown hgr (by have := HB.size; omega) (by simp); clear hb hgr)
      | ((with_reducible refine gate_dst (N := 6) rfl ?_); refine ev_alloc rfl rfl _ rec_zero ?_; intro g6 W4 hg6 hsz hbn; have hgr := grown_of_below hbn; replace hg6 : Blk W4 g6 _ (Rec.zero.cells none 0) := hg6; have zg6 : w.heap.size ≤ g6 := (by have := HB.size; omega); replace HB := HB.grown hgr (by have := HB.size; omega) (by simp); have hcg6 := hg6.cell; have hfg6 := hg6.frozen; clear hsz hbn hgr)
      | ((with_reducible refine gate_store (p := 6) rfl ?_); refine ev_store_row (cs := Rec.zero.cells A6 c6) rfl rfl rfl hg6 rfl rfl rec_size rfl (cells_one _ _ _) ?_; intro W5 hgn hgr; replace HB := HB.grown hgr (by have := HB.size; omega) (by intro k e; injection e with e; omega); replace hg6 := hgn; replace hcg6 := hg6.cell; replace hfg6 := hg6.frozen; clear hgn hgr)
      | (go_at_call 53; (with_reducible refine (num3_calls _ _).mono ?_); rintro e w1 ⟨rfl, rfl⟩)
      | ((with_reducible refine gate_dst (N := 23) rfl ?_); refine wpList_load_row rfl _ _ rfl g6 rfl _ _ (0, 0) _ hg6 Tryd.underlying35 rfl rec_size ?_)
      | (go_at_call 82; (with_reducible refine (empty_calls A6 c6 _).mono ?_); rintro e W6 ⟨rfl, hb⟩; have hgr := grown_of_below hb; replace hg6 := hg6.grown hgr (by simp); replace HB := HB.grown hgr (by have := HB.size; omega) (by simp); replace hcg6 := hg6.cell; replace hfg6 := hg6.frozen; clear hb hgr))
    go_ret
    exact ⟨rfl, HB⟩
end Go.Proofs.YtjhiohjpkdjkoaaDoor
