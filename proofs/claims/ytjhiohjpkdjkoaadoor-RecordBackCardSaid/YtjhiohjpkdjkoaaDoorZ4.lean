/-
  The walk of the law RecordBack.
-/
import Derived.Test.YtjhiohjpkdjkoaaDoorZ2
import Derived.Test.YtjhiohjpkdjkoaaDoorZ3
import Derived.Test.YtjhiohjpkdjkoaaDoorY3
set_option linter.unusedVariables false
set_option linter.unusedSimpArgs false
namespace Go.Proofs.YtjhiohjpkdjkoaaDoor
open Go.RowKit
attribute [local go_sem] Rec.size_ Rec.g0 Rec.g1 Rec.g2 Rec.g3 Rec.g4 Rec.g5 Rec.g6 Rec.g7 Rec.g8 Rec.g9 Rec.g10 Rec.g11 Rec.fold Rec.same_self

theorem enc_pos0 {r : Rec} (h : r.chk = 0) : 0 < r.enc.length := by
  have hk := ((chk_ok r).1 h).2.1
  have hz : r.zeroAt 1 = false := int_beq_false (show r.Kind ≠ 0 by omega)
  rw [enc_all]
  simp only [Rec.encFrom, List.length_append]
  have e : r.tagB 1 = uintL 1 ++ r.valB 1 := by unfold Rec.tagB; rw [hz]; rfl
  have := uintL_len 1
  rw [e, List.length_append]
  omega
theorem enc_len0 {r : Rec} (h : r.chk = 0) : r.enc.length ≤ 182600 := encTo_short (valid_small h) 11 (by omega)
/-- A valid record's bytes, read again. -/
theorem decode_enc (r : Rec) (hi : r.Ints) (hc : r.chk = 0) (L : Option Addr) (cl : Nat) (hcl : r.enc.length ≤ cl) (w : World) (hT : Tabs w) (hd : RB w L r.enc) :
    Calls Tryd.prog 52 #[.int .i64 r.V, .slice L r.enc.length cl] w fun e w' => ∃ A' c', e = .returned (.tuple #[.agg (r.cells A' c'), .int .i64 0])
      ∧ w'.ownsRow w.heap.size 5 1 (.slice A' r.Data.length c') r.Data.length (u8s r.Data) ∧ Below w.heap.size w w' := by
  have := decode_calls r.V r.enc L cl hcl (by have := enc_len0 hc; omega) w hT hd
  unfold DecSaid at this
  obtain ⟨e1, e2⟩ := dec_of_enc hi hc
  rwa [e1, e2] at this
theorem same_true (a : Rec) (A B : Option Addr) (c d : Nat) (w : World) (ha : RB w A a.Data) (hb : RB w B a.Data) :
    Calls Tryd.prog 45 #[.agg (a.cells A c), .agg (a.cells B d)] w fun e w' => e = .returned (.bool true) ∧ Below w.heap.size w w' := by
  have := same_calls a a A B c d w ha hb
  rwa [Rec.same_self] at this
theorem equal_self (a : Rec) (A B : Option Addr) (c d : Nat) (w : World) (ha : RB w A a.Data) (hb : RB w B a.Data) (hl : a.Data.length ≤ 140737488351232) :
    Calls Tryd.prog 54 #[.agg (a.cells A c), .agg (a.cells B d)] w fun e w' => e = .returned (.bool true) ∧ Below w.heap.size w w' := equal_calls a a.V A B c d w ha hb hl

set_option maxHeartbeats 4000000 in
set_option maxRecDepth 100000 in
theorem back_bad (r : Rec) (A : Option Addr) (c : Nat) (hf : r.Fits) (w : World) (hT : Tabs w) (hd : RB w A r.Data) (hc : r.chk ≠ 0) :
    Calls Tryd.prog 24 #[.agg (r.cells A c)] w fun e w' => e = .returned (.bool true) ∧ Below w.heap.size w w' := by
  have HB := Below.refl w.heap.size w
  have HT := Lib.hid hT
  have cc := fun w => check_calls r A c hf w
  have ce := fun w => encode_bad r A c r.chk rfl hc hf w
  have cs := fun w => size_bad r A c r.chk rfl hc hf w
  have t1 := int_bne_true hc
  generalize r.chk = k at cc ce cs t1
  have t2 : (k != k) = false := by simp
  have Cc := Lib.hid cc
  have Ce := Lib.hid ce
  have Cs := Lib.hid cs
  clear hT cc ce cs hc
  go_enter Tryd.func24, Tryd.ntmps24
  go_wp2_with (first
    | ((with_reducible refine gate_dst (N := 1) rfl ?_); refine ev_box rfl rfl (r.cells A c) rfl ?_; intro g1 W1 hg1 hsz hbn; have hgr := grown_of_below hbn; have zg1 : w.heap.size ≤ g1 := (by have := HB.size; omega); replace HB := HB.grown hgr (by have := HB.size; omega) (by simp); have hcg1 := hg1.cell; have hfg1 := hg1.frozen; clear hsz hbn hgr)
    | (go_at_call 36; (with_reducible refine (started3_calls _ (HT.out.next HB)).mono ?_); rintro e W2 ⟨rfl, hb⟩; have hgr := grown_of_below hb; replace hg1 := hg1.grown hgr (by simp); replace HB := HB.grown hgr (by have := HB.size; omega) (by simp); replace hcg1 := hg1.cell; replace hfg1 := hg1.frozen; clear hb hgr)
    | ((with_reducible refine gate_dst (N := 12) rfl ?_); refine wpList_load_row rfl _ _ rfl g1 rfl _ _ (0, 0) _ hg1 Tryd.underlying35 rfl rec_size ?_)
    | (go_at_call 75; (with_reducible refine (Cc.out _ (HT.out.next HB) (hd.next HB)).mono ?_); rintro e W3 ⟨rfl, hb⟩; have hgr := grown_of_below hb; replace hg1 := hg1.grown hgr (by simp); replace HB := HB.grown hgr (by have := HB.size; omega) (by simp); replace hcg1 := hg1.cell; replace hfg1 := hg1.frozen; clear hb hgr)
    | ((with_reducible refine gate_dst (N := 15) rfl ?_); refine wpList_load_row rfl _ _ rfl g1 rfl _ _ (0, 0) _ hg1 Tryd.underlying35 rfl rec_size ?_)
    | (go_at_call 76; (with_reducible refine (Ce.out _ (HT.out.next HB) (hd.next HB)).mono ?_); rintro e W4 ⟨rfl, hb⟩; have hgr := grown_of_below hb; replace hg1 := hg1.grown hgr (by simp); replace HB := HB.grown hgr (by have := HB.size; omega) (by simp); replace hcg1 := hg1.cell; replace hfg1 := hg1.frozen; clear hb hgr)
    | ((with_reducible refine gate_dst (N := 20) rfl ?_); refine wpList_load_row rfl _ _ rfl g1 rfl _ _ (0, 0) _ hg1 Tryd.underlying35 rfl rec_size ?_)
    | (go_at_call 77; (with_reducible refine (Cs.out _ (HT.out.next HB) (hd.next HB)).mono ?_); rintro e W5 ⟨rfl, hb⟩; have hgr := grown_of_below hb; replace hg1 := hg1.grown hgr (by simp); replace HB := HB.grown hgr (by have := HB.size; omega) (by simp); replace hcg1 := hg1.cell; replace hfg1 := hg1.frozen; clear hb hgr)
    | (go_at_call 53; (with_reducible refine (num3_calls _ _).mono ?_); rintro e w1 ⟨rfl, rfl⟩))
  go_ret
  exact ⟨rfl, HB⟩

set_option maxHeartbeats 4000000 in
set_option maxRecDepth 100000 in
theorem back_good (r : Rec) (A : Option Addr) (c : Nat) (hi : r.Ints) (hf : r.Fits) (w : World) (hT : Tabs w) (hd : RB w A r.Data) (hc : r.chk = 0) :
    Calls Tryd.prog 24 #[.agg (r.cells A c)] w fun e w' => e = .returned (.bool true) ∧ Below w.heap.size w w' := by
  have HB := Below.refl w.heap.size w
  have HT := Lib.hid hT
  have hrl := hf.data
  have cc := fun w => check_calls r A c hf w
  have ce := fun w hT hd => encode_calls r A c hf w hT hd hc
  have cs := fun w => size_calls r A c hc hf w
  have cd := fun L cl h w hT hd => decode_enc r hi hc L cl h w hT hd
  rw [hc] at cc
  have hp := enc_pos0 hc
  generalize r.enc = b at ce cs cd hp
  have t3 : decide ((0 : Int) < (b.length : Int)) = true := by rw [decide_eq_true_eq]; omega
  have t3' : decide (0 < b.length) = true := by rw [decide_eq_true_eq]; exact hp
  have t4 : ((b.length : Int) != (b.length : Int)) = false := by simp
  have Cc := Lib.hid cc
  have Ce := Lib.hid ce
  have Cs := Lib.hid cs
  have Cd := Lib.hid cd
  clear hT cc ce cs cd hc hp
  go_enter Tryd.func24, Tryd.ntmps24
  go_wp2_with (first
    | ((with_reducible refine gate_dst (N := 1) rfl ?_); refine ev_box rfl rfl (r.cells A c) rfl ?_; intro g1 W1 hg1 hsz hbn; have hgr := grown_of_below hbn; have zg1 : w.heap.size ≤ g1 := (by have := HB.size; omega); replace HB := HB.grown hgr (by have := HB.size; omega) (by simp); have hcg1 := hg1.cell; have hfg1 := hg1.frozen; clear hsz hbn hgr)
    | (go_at_call 36; (with_reducible refine (started3_calls _ (HT.out.next HB)).mono ?_); rintro e W2 ⟨rfl, hb⟩; have hgr := grown_of_below hb; replace hg1 := hg1.grown hgr (by simp); replace HB := HB.grown hgr (by have := HB.size; omega) (by simp); replace hcg1 := hg1.cell; replace hfg1 := hg1.frozen; clear hb hgr)
    | ((with_reducible refine gate_dst (N := 12) rfl ?_); refine wpList_load_row rfl _ _ rfl g1 rfl _ _ (0, 0) _ hg1 Tryd.underlying35 rfl rec_size ?_)
    | (go_at_call 75; (with_reducible refine (Cc.out _ (HT.out.next HB) (hd.next HB)).mono ?_); rintro e W3 ⟨rfl, hb⟩; have hgr := grown_of_below hb; replace hg1 := hg1.grown hgr (by simp); replace HB := HB.grown hgr (by have := HB.size; omega) (by simp); replace hcg1 := hg1.cell; replace hfg1 := hg1.frozen; clear hb hgr)
    | ((with_reducible refine gate_dst (N := 15) rfl ?_); refine wpList_load_row rfl _ _ rfl g1 rfl _ _ (0, 0) _ hg1 Tryd.underlying35 rfl rec_size ?_)
    | (go_at_call 76; (with_reducible refine (Ce.out _ (HT.out.next HB) (hd.next HB)).mono ?_); rintro e W4 ⟨A5, c5, rfl, o5, hb⟩; have hgr := grown_of_below hb; replace o5 := own_mono o5 HB.size; replace hg1 := hg1.grown hgr (by simp); replace HB := HB.grown hgr (by have := HB.size; omega) (by simp); replace hcg1 := hg1.cell; replace hfg1 := hg1.frozen; clear hb hgr)
    | ((with_reducible refine gate_dst (N := 20) rfl ?_); refine wpList_load_row rfl _ _ rfl g1 rfl _ _ (0, 0) _ hg1 Tryd.underlying35 rfl rec_size ?_)
    | (go_at_call 77; (with_reducible refine (Cs.out _ (HT.out.next HB) (hd.next HB)).mono ?_); rintro e W5 ⟨rfl, hb⟩; have hgr := grown_of_below hb; replace hg1 := hg1.grown hgr (by simp); replace o5 := o5.kept hgr (by cases Value.ownBlock _ <;> simp); replace HB := HB.grown hgr (by have := HB.size; omega) (by simp); replace hcg1 := hg1.cell; replace hfg1 := hg1.frozen; clear hb hgr)
    | (go_at_call 53; (with_reducible refine (num3_calls _ _).mono ?_); rintro e w1 ⟨rfl, rfl⟩)
    | (go_at_call 52; (with_reducible refine (Cd.out _ _ (own_room o5) _ (HT.out.next HB) (own_rb o5)).mono ?_); rintro e W6 ⟨A6, c6, rfl, o6, hb⟩; have hgr := grown_of_below hb; have do5o6 := own_apart o5 o6 (Nat.le_refl _); replace o6 := own_mono o6 HB.size; replace hg1 := hg1.grown hgr (by simp); replace o5 := o5.kept hgr (by cases Value.ownBlock _ <;> simp); replace HB := HB.grown hgr (by have := HB.size; omega) (by simp); replace hcg1 := hg1.cell; replace hfg1 := hg1.frozen; clear hb hgr)
    | ((with_reducible refine gate_dst (N := 9) rfl ?_); refine ev_alloc rfl rfl _ rec_zero ?_; intro g9 W7 hg9 hsz hbn; have hgr := grown_of_below hbn; have ng1g9 : g1 ≠ g9 := (by have := hg1.lt; omega); replace hg9 : Blk W7 g9 _ (Rec.zero.cells none 0) := hg9; have zg9 : w.heap.size ≤ g9 := (by have := HB.size; omega); replace hg1 := hg1.grown hgr (by simp); replace o6 := o6.kept hgr (by cases Value.ownBlock _ <;> simp); replace HB := HB.grown hgr (by have := HB.size; omega) (by simp); have hcg9 := hg9.cell; have hfg9 := hg9.frozen; replace hcg1 := hg1.cell; replace hfg1 := hg1.frozen; clear hsz hbn hgr)
    | ((with_reducible refine gate_store (p := 9) rfl ?_); refine ev_store_row (cs := r.cells A6 c6) rfl rfl rfl hg9 rfl rfl rec_size rfl (cells_one _ _ _) ?_; intro W8 hgn hgr; replace hg1 := hg1.grown hgr (by intro e; injection e with e; omega); replace o6 := o6.kept hgr (.inr (own_blk_ne o6 hg9 (by decide))); replace HB := HB.grown hgr (by have := HB.size; omega) (by intro k e; injection e with e; omega); replace hg9 := hgn; replace hcg1 := hg1.cell; replace hfg1 := hg1.frozen; replace hcg9 := hg9.cell; replace hfg9 := hg9.frozen; clear hgn hgr)
    | ((with_reducible refine gate_dst (N := 73) rfl ?_); (first | (refine wpList_ungate ?_ ?_; focus (first | rfl | (simp [Region.wanted, yielded]; done))) | (refine wpList_ungate (by first | rfl | simp [Region.wanted, yielded]) ?_)); refine wpList_load_row rfl _ _ rfl g1 rfl _ _ (0, 0) _ hg1 Tryd.underlying35 rfl rec_size ?_)
    | ((with_reducible refine gate_dst (N := 74) rfl ?_); (first | (refine wpList_ungate ?_ ?_; focus (first | rfl | (simp [Region.wanted, yielded]; done))) | (refine wpList_ungate (by first | rfl | simp [Region.wanted, yielded]) ?_)); refine wpList_load_row rfl _ _ rfl g9 rfl _ _ (0, 0) _ hg9 Tryd.underlying35 rfl rec_size ?_)
    | (go_at_call 54; (with_reducible refine (equal_self r A A6 c c6 _ (hd.next HB) (own_rb o6) hrl).mono ?_); rintro e W9 ⟨rfl, hb⟩; have hgr := grown_of_below hb; replace hg1 := hg1.grown hgr (by simp); replace hg9 := hg9.grown hgr (by simp); replace o6 := o6.kept hgr (by cases Value.ownBlock _ <;> simp); replace HB := HB.grown hgr (by have := HB.size; omega) (by simp); replace hcg1 := hg1.cell; replace hfg1 := hg1.frozen; replace hcg9 := hg9.cell; replace hfg9 := hg9.frozen; clear hb hgr)
    | ((with_reducible refine gate_dst (N := 78) rfl ?_); (first | (refine wpList_ungate ?_ ?_; focus (first | rfl | (simp [Region.wanted, yielded]; done))) | (refine wpList_ungate (by first | rfl | simp [Region.wanted, yielded]) ?_)); refine wpList_load_row rfl _ _ rfl g1 rfl _ _ (0, 0) _ hg1 Tryd.underlying35 rfl rec_size ?_)
    | ((with_reducible refine gate_dst (N := 79) rfl ?_); (first | (refine wpList_ungate ?_ ?_; focus (first | rfl | (simp [Region.wanted, yielded]; done))) | (refine wpList_ungate (by first | rfl | simp [Region.wanted, yielded]) ?_)); refine wpList_load_row rfl _ _ rfl g9 rfl _ _ (0, 0) _ hg9 Tryd.underlying35 rfl rec_size ?_)
    | (go_at_call 45; (with_reducible refine (same_true r A A6 c c6 _ (hd.next HB) (own_rb o6)).mono ?_); rintro e W10 ⟨rfl, hb⟩; have hgr := grown_of_below hb; replace hg1 := hg1.grown hgr (by simp); replace hg9 := hg9.grown hgr (by simp); replace o6 := o6.kept hgr (by cases Value.ownBlock _ <;> simp); replace HB := HB.grown hgr (by have := HB.size; omega) (by simp); replace hcg1 := hg1.cell; replace hfg1 := hg1.frozen; replace hcg9 := hg9.cell; replace hfg9 := hg9.frozen; clear hb hgr))
  go_ret
  exact ⟨rfl, HB⟩
theorem recordBack_calls (r : Rec) (A : Option Addr) (c : Nat) (hi : r.Ints) (hf : r.Fits) (w : World) (hT : Tabs w) (hd : RB w A r.Data) :
    Calls Tryd.prog 24 #[.agg (r.cells A c)] w fun e w' => e = .returned (.bool true) ∧ Below w.heap.size w w' := by
  by_cases hc : r.chk = 0
  · exact back_good r A c hi hf w hT hd hc
  · exact back_bad r A c hf w hT hd hc
end Go.Proofs.YtjhiohjpkdjkoaaDoor
