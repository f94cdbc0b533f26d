/-
  The walk of the law RecordWrites.
-/
import Derived.Test.YtjhiohjpkdjkoaaDoorV2
import Derived.Test.YtjhiohjpkdjkoaaDoorW5s
set_option linter.unusedVariables false
set_option linter.unusedSimpArgs false
namespace Go.Proofs.YtjhiohjpkdjkoaaDoor
open Go.RowKit
attribute [local go_sem] Rec.size_ Rec.g0 Rec.g1 Rec.g2 Rec.g3 Rec.g4 Rec.g5 Rec.g6 Rec.g7 Rec.g8 Rec.g9 Rec.g10 Rec.g11 Rec.fold Rec.same_self

set_option maxHeartbeats 1000000 in
set_option maxRecDepth 100000 in
theorem encode_bad (r : Rec) (A : Option Addr) (c : Nat) (k : Int) (hk : r.chk = k) (h0 : k ≠ 0) (hf : r.Fits) (w : World) (hT : Tabs w) (hd : RB w A r.Data) :
    Calls Tryd.prog 76 #[.agg (r.cells A c)] w fun e w' => e = .returned (.tuple #[.slice none 0 0, .int .i64 k]) ∧ Below w.heap.size w w' := by
  have HB := Below.refl w.heap.size w
  have HT := Lib.hid hT
  have t1 := int_bne_true h0
  have cc := fun w => check_calls r A c hf w
  rw [hk] at cc
  have Cc := Lib.hid cc
  clear hT cc hk h0
  go_enter Tryd.func76, Tryd.ntmps76
  go_wp2_with (first
    | ((with_reducible refine gate_dst (N := 1) rfl ?_); refine ev_box rfl rfl (r.cells A c) rfl ?_; intro g1 W1 hg1 hsz hbn; have hgr := grown_of_below hbn; have zg1 : w.heap.size ≤ g1 := (by have := HB.size; omega); replace HB := HB.grown hgr (by have := HB.size; omega) (by simp); have hcg1 := hg1.cell; have hfg1 := hg1.frozen; clear hsz hbn hgr)
    | ((with_reducible refine gate_dst (N := 7) rfl ?_); refine wpList_load_row rfl _ _ rfl g1 rfl _ _ (0, 0) _ hg1 Tryd.underlying35 rfl rec_size ?_)
    | (go_at_call 75; (with_reducible refine (Cc.out _ (HT.out.next HB) (hd.next HB)).mono ?_); rintro e W2 ⟨rfl, hb⟩; have hgr := grown_of_below hb; replace hg1 := hg1.grown hgr (by simp); replace HB := HB.grown hgr (by have := HB.size; omega) (by simp); replace hcg1 := hg1.cell; replace hfg1 := hg1.frozen; clear hb hgr))
  go_ret2
  exact ⟨rfl, HB⟩
set_option maxHeartbeats 1000000 in
set_option maxRecDepth 100000 in
theorem refEncode_bad (r : Rec) (A : Option Addr) (c : Nat) (k : Int) (hk : r.chk = k) (h0 : k ≠ 0) (hz : r.Name.size ≤ 1099511627776) (w : World) (hT : RTabs w) (hd : RB w A r.Data) :
    Calls Tryd.prog 78 #[.agg (r.cells A c)] w fun e w' => e = .returned (.tuple #[.slice none 0 0, .int .i64 k]) ∧ Below w.heap.size w w' := by
  have HB := Below.refl w.heap.size w
  have HT := Lib.hid hT
  have t1 := int_bne_true h0
  have cc := fun w => ref_check_of r k hk A c hz w
  have Cc := Lib.hid cc
  clear hT cc hk h0
  go_enter Tryd.func78, Tryd.ntmps78
  go_wp2_with (first
    | ((with_reducible refine gate_dst (N := 1) rfl ?_); refine ev_box rfl rfl (r.cells A c) rfl ?_; intro g1 W1 hg1 hsz hbn; have hgr := grown_of_below hbn; have zg1 : w.heap.size ≤ g1 := (by have := HB.size; omega); replace HB := HB.grown hgr (by have := HB.size; omega) (by simp); have hcg1 := hg1.cell; have hfg1 := hg1.frozen; clear hsz hbn hgr)
    | ((with_reducible refine gate_dst (N := 9) rfl ?_); refine wpList_load_row rfl _ _ rfl g1 rfl _ _ (0, 0) _ hg1 Tryd.underlying35 rfl rec_size ?_)
    | (go_at_call 49; (with_reducible refine (Cc.out _ (HT.out.next HB) (hd.next HB)).mono ?_); rintro e W2 ⟨rfl, hb⟩; have hgr := grown_of_below hb; replace hg1 := hg1.grown hgr (by simp); replace HB := HB.grown hgr (by have := HB.size; omega) (by simp); replace hcg1 := hg1.cell; replace hfg1 := hg1.frozen; clear hb hgr))
  go_ret2
  exact ⟨rfl, HB⟩
set_option maxRecDepth 100000 in
theorem size_bad (r : Rec) (A : Option Addr) (c : Nat) (k : Int) (hk : r.chk = k) (h0 : k ≠ 0) (hf : r.Fits) (w : World) (hT : Tabs w) (hd : RB w A r.Data) :
    Calls Tryd.prog 77 #[.agg (r.cells A c)] w fun e w' => e = .returned (.tuple #[.int .i64 0, .int .i64 k]) ∧ Below w.heap.size w w' := by
  have HB := Below.refl w.heap.size w
  have HT := Lib.hid hT
  have ce := fun w => encode_bad r A c k hk h0 hf w
  have Ce := Lib.hid ce
  clear hT ce hk h0
  go_enter Tryd.func77, Tryd.ntmps77
  go_wp2_with (first
    | ((with_reducible refine gate_dst (N := 1) rfl ?_); refine ev_box rfl rfl (r.cells A c) rfl ?_; intro g1 W1 hg1 hsz hbn; have hgr := grown_of_below hbn; have zg1 : w.heap.size ≤ g1 := (by have := HB.size; omega); replace HB := HB.grown hgr (by have := HB.size; omega) (by simp); have hcg1 := hg1.cell; have hfg1 := hg1.frozen; clear hsz hbn hgr)
    | ((with_reducible refine gate_dst (N := 7) rfl ?_); refine wpList_load_row rfl _ _ rfl g1 rfl _ _ (0, 0) _ hg1 Tryd.underlying35 rfl rec_size ?_)
    | (go_at_call 76; (with_reducible refine (Ce.out _ (HT.out.next HB) (hd.next HB)).mono ?_); rintro e W2 ⟨rfl, hb⟩; have hgr := grown_of_below hb; replace hg1 := hg1.grown hgr (by simp); replace HB := HB.grown hgr (by have := HB.size; omega) (by simp); replace hcg1 := hg1.cell; replace hfg1 := hg1.frozen; clear hb hgr))
  go_ret2
  exact ⟨rfl, HB⟩
set_option maxRecDepth 100000 in
theorem size_calls (r : Rec) (A : Option Addr) (c : Nat) (hc : r.chk = 0) (hf : r.Fits) (w : World) (hT : Tabs w) (hd : RB w A r.Data) :
    Calls Tryd.prog 77 #[.agg (r.cells A c)] w fun e w' => e = .returned (.tuple #[.int .i64 r.enc.length, .int .i64 0]) ∧ Below w.heap.size w w' := by
  have HB := Below.refl w.heap.size w
  have HT := Lib.hid hT
  have ce := fun w hT hd => encode_calls r A c hf w hT hd hc
  have Ce := Lib.hid ce
  clear hT ce hc
  go_enter Tryd.func77, Tryd.ntmps77
  go_wp2_with (first
    | ((with_reducible refine gate_dst (N := 1) rfl ?_); refine ev_box rfl rfl (r.cells A c) rfl ?_; intro g1 W1 hg1 hsz hbn; have hgr := grown_of_below hbn; have zg1 : w.heap.size ≤ g1 := (by have := HB.size; omega); replace HB := HB.grown hgr (by have := HB.size; omega) (by simp); have hcg1 := hg1.cell; have hfg1 := hg1.frozen; clear hsz hbn hgr)
    | ((with_reducible refine gate_dst (N := 7) rfl ?_); refine wpList_load_row rfl _ _ rfl g1 rfl _ _ (0, 0) _ hg1 Tryd.underlying35 rfl rec_size ?_)
    | (go_at_call 76; (with_reducible refine (Ce.out _ (HT.out.next HB) (hd.next HB)).mono ?_); rintro e W2 ⟨A5, c5, rfl, o5, hb⟩; have hgr := grown_of_below hb; replace hg1 := hg1.grown hgr (by simp); replace HB := HB.grown hgr (by have := HB.size; omega) (by simp); replace hcg1 := hg1.cell; replace hfg1 := hg1.frozen; clear hb hgr))
  go_ret2
  exact ⟨rfl, HB⟩
theorem refAlike_nil (w : World) : Calls Tryd.prog 79 #[.slice none 0 0, .slice none 0 0] w fun e w' => e = .returned (.bool true) ∧ Below w.heap.size w w' :=
  refAlike_calls [] [] none none 0 0 w RB.nil RB.nil (by decide) (by decide)
theorem refAlike_true (l : List UInt8) (A B : Option Addr) (c d : Nat) (w : World) (ha : RB w A l) (hb : RB w B l) (hl : l.length ≤ 140737488351232) :
    Calls Tryd.prog 79 #[.slice A l.length c, .slice B l.length d] w fun e w' => e = .returned (.bool true) ∧ Below w.heap.size w w' := by
  have := refAlike_calls l l A B c d w ha hb hl hl
  simpa using this

set_option maxHeartbeats 4000000 in
set_option maxRecDepth 100000 in
theorem writes_bad (r : Rec) (A : Option Addr) (c : Nat) (hf : r.Fits) (hz : r.Name.size ≤ 1099511627776) (w : World) (hT : Tabs w) (hR : RTabs w) (hd : RB w A r.Data) (hc : r.chk ≠ 0) :
    Calls Tryd.prog 21 #[.agg (r.cells A c)] w fun e w' => e = .returned (.bool true) ∧ Below w.heap.size w w' := by
  have HB := Below.refl w.heap.size w
  have HT := Lib.hid hT
  have HR := Lib.hid hR
  have hrl := hf.data
  have ce := fun w => encode_bad r A c r.chk rfl hc hf w
  have cs := fun w => size_bad r A c r.chk rfl hc hf w
  have cr := fun A c w => refEncode_bad r A c r.chk rfl hc hz w
  generalize r.chk = k at ce cs cr
  have Ce := Lib.hid ce
  have Cs := Lib.hid cs
  have Cr := Lib.hid cr
  clear hT hR ce cs cr hc
  go_enter Tryd.func21, Tryd.ntmps21
  go_wp2_with (first
    | ((with_reducible refine gate_dst (N := 1) rfl ?_); refine ev_box rfl rfl (r.cells A c) rfl ?_; intro g1 W1 hg1 hsz hbn; have hgr := grown_of_below hbn; have zg1 : w.heap.size ≤ g1 := (by have := HB.size; omega); replace HB := HB.grown hgr (by have := HB.size; omega) (by simp); have hcg1 := hg1.cell; have hfg1 := hg1.frozen; clear hsz hbn hgr)
    | (go_at_call 36; (with_reducible refine (started3_calls _ (HT.out.next HB)).mono ?_); rintro e W2 ⟨rfl, hb⟩; have hgr := grown_of_below hb; replace hg1 := hg1.grown hgr (by simp); replace HB := HB.grown hgr (by have := HB.size; omega) (by simp); replace hcg1 := hg1.cell; replace hfg1 := hg1.frozen; clear hb hgr)
    | ((with_reducible refine gate_dst (N := 12) rfl ?_); refine wpList_load_row rfl _ _ rfl g1 rfl _ _ (0, 0) _ hg1 Tryd.underlying35 rfl rec_size ?_)
    | (go_at_call 74; (with_reducible refine (refClone_calls r A c _ (hd.next HB) hrl).mono ?_); rintro e W3 ⟨A3, c3, rfl, o3, hb⟩; have hgr := grown_of_below hb; replace o3 := own_mono o3 HB.size; replace hg1 := hg1.grown hgr (by simp); replace HB := HB.grown hgr (by have := HB.size; omega) (by simp); replace hcg1 := hg1.cell; replace hfg1 := hg1.frozen; clear hb hgr)
    | ((with_reducible refine gate_dst (N := 4) rfl ?_); refine ev_alloc rfl rfl _ rec_zero ?_; intro g4 W4 hg4 hsz hbn; have hgr := grown_of_below hbn; have ng1g4 : g1 ≠ g4 := (by have := hg1.lt; omega); replace hg4 : Blk W4 g4 _ (Rec.zero.cells none 0) := hg4; have zg4 : w.heap.size ≤ g4 := (by have := HB.size; omega); replace hg1 := hg1.grown hgr (by simp); replace o3 := o3.kept hgr (by cases Value.ownBlock _ <;> simp); replace HB := HB.grown hgr (by have := HB.size; omega) (by simp); have hcg4 := hg4.cell; have hfg4 := hg4.frozen; replace hcg1 := hg1.cell; replace hfg1 := hg1.frozen; clear hsz hbn hgr)
    | ((with_reducible refine gate_store (p := 4) rfl ?_); refine ev_store_row (cs := r.cells A3 c3) rfl rfl rfl hg4 rfl rfl rec_size rfl (cells_one _ _ _) ?_; intro W5 hgn hgr; replace hg1 := hg1.grown hgr (by intro e; injection e with e; omega); replace o3 := o3.kept hgr (.inr (own_blk_ne o3 hg4 (by decide))); replace HB := HB.grown hgr (by have := HB.size; omega) (by intro k e; injection e with e; omega); replace hg4 := hgn; replace hcg1 := hg1.cell; replace hfg1 := hg1.frozen; replace hcg4 := hg4.cell; replace hfg4 := hg4.frozen; clear hgn hgr)
    | ((with_reducible refine gate_dst (N := 15) rfl ?_); refine wpList_load_row rfl _ _ rfl g1 rfl _ _ (0, 0) _ hg1 Tryd.underlying35 rfl rec_size ?_)
    | (go_at_call 76; (with_reducible refine (Ce.out _ (HT.out.next HB) (hd.next HB)).mono ?_); rintro e W6 ⟨rfl, hb⟩; have hgr := grown_of_below hb; replace hg1 := hg1.grown hgr (by simp); replace hg4 := hg4.grown hgr (by simp); replace o3 := o3.kept hgr (by cases Value.ownBlock _ <;> simp); replace HB := HB.grown hgr (by have := HB.size; omega) (by simp); replace hcg1 := hg1.cell; replace hfg1 := hg1.frozen; replace hcg4 := hg4.cell; replace hfg4 := hg4.frozen; clear hb hgr)
    | ((with_reducible refine gate_dst (N := 20) rfl ?_); refine wpList_load_row rfl _ _ rfl g1 rfl _ _ (0, 0) _ hg1 Tryd.underlying35 rfl rec_size ?_)
    | (go_at_call 77; (with_reducible refine (Cs.out _ (HT.out.next HB) (hd.next HB)).mono ?_); rintro e W7 ⟨rfl, hb⟩; have hgr := grown_of_below hb; replace hg1 := hg1.grown hgr (by simp); replace hg4 := hg4.grown hgr (by simp); replace o3 := o3.kept hgr (by cases Value.ownBlock _ <;> simp); replace HB := HB.grown hgr (by have := HB.size; omega) (by simp); replace hcg1 := hg1.cell; replace hfg1 := hg1.frozen; replace hcg4 := hg4.cell; replace hfg4 := hg4.frozen; clear hb hgr)
    | ((with_reducible refine gate_dst (N := 25) rfl ?_); refine wpList_load_row rfl _ _ rfl g4 rfl _ _ (0, 0) _ hg4 Tryd.underlying35 rfl rec_size ?_)
    | (go_at_call 78; (with_reducible refine (Cr.out _ _ _ (HR.out.next HB) (own_rb o3)).mono ?_); rintro e W8 ⟨rfl, hb⟩; have hgr := grown_of_below hb; replace hg1 := hg1.grown hgr (by simp); replace hg4 := hg4.grown hgr (by simp); replace o3 := o3.kept hgr (by cases Value.ownBlock _ <;> simp); replace HB := HB.grown hgr (by have := HB.size; omega) (by simp); replace hcg1 := hg1.cell; replace hfg1 := hg1.frozen; replace hcg4 := hg4.cell; replace hfg4 := hg4.frozen; clear hb hgr)
    | (go_at_call 53; (with_reducible refine (num3_calls _ _).mono ?_); rintro e w1 ⟨rfl, rfl⟩)
    | (go_at_call 79; (with_reducible refine (refAlike_nil _).mono ?_); rintro e W9 ⟨rfl, hb⟩; have hgr := grown_of_below hb; replace hg1 := hg1.grown hgr (by simp); replace hg4 := hg4.grown hgr (by simp); replace o3 := o3.kept hgr (by cases Value.ownBlock _ <;> simp); replace HB := HB.grown hgr (by have := HB.size; omega) (by simp); replace hcg1 := hg1.cell; replace hfg1 := hg1.frozen; replace hcg4 := hg4.cell; replace hfg4 := hg4.frozen; clear hb hgr)
    | ((with_reducible refine gate_dst (N := 54) rfl ?_); refine wpList_ungate ?_ ?_; focus (first | rfl | (simp [Region.wanted, yielded]; done)); refine wpList_load_row rfl _ _ rfl g1 rfl _ _ (0, 0) _ hg1 Tryd.underlying35 rfl rec_size ?_)
    | ((with_reducible refine gate_dst (N := 55) rfl ?_); refine wpList_ungate ?_ ?_; focus (first | rfl | (simp [Region.wanted, yielded]; done)); refine wpList_load_row rfl _ _ rfl g4 rfl _ _ (0, 0) _ hg4 Tryd.underlying35 rfl rec_size ?_)
    | (go_at_call 35; (with_reducible refine (same3 r _ _ _ _ _ (hd.next HB) (own_rb o3) hrl).mono ?_); rintro e W10 ⟨rfl, hb⟩; have hgr := grown_of_below hb; replace hg1 := hg1.grown hgr (by simp); replace hg4 := hg4.grown hgr (by simp); replace o3 := o3.kept hgr (by cases Value.ownBlock _ <;> simp); replace HB := HB.grown hgr (by have := HB.size; omega) (by simp); replace hcg1 := hg1.cell; replace hfg1 := hg1.frozen; replace hcg4 := hg4.cell; replace hfg4 := hg4.frozen; clear hb hgr))
  go_ret
  exact ⟨rfl, HB⟩
set_option maxHeartbeats 4000000 in
set_option maxRecDepth 100000 in
theorem writes_good (r : Rec) (A : Option Addr) (c : Nat) (hf : r.Fits) (hcd : -9223372036854775808 ≤ r.Code ∧ r.Code ≤ 9223372036854775807) (w : World) (hT : Tabs w) (hR : RTabs w) (hd : RB w A r.Data) (hc : r.chk = 0) :
    Calls Tryd.prog 21 #[.agg (r.cells A c)] w fun e w' => e = .returned (.bool true) ∧ Below w.heap.size w w' := by
  have HB := Below.refl w.heap.size w
  have HT := Lib.hid hT
  have HR := Lib.hid hR
  have hrl := hf.data
  have ce := fun w hT hd => encode_calls r A c hf w hT hd hc
  have cs := fun w => size_calls r A c hc hf w
  have cr := fun A c w hT hd => refEncode_calls r A c hf hcd w hT hd hc
  have hel : r.enc.length ≤ 182600 := encTo_short (valid_small hc) 11 (by omega)
  generalize r.enc = b at ce cs cr hel
  have Ce := Lib.hid ce
  have Cs := Lib.hid cs
  have Cr := Lib.hid cr
  clear hT hR ce cs cr hc
  go_enter Tryd.func21, Tryd.ntmps21
  go_wp2_with (first
    | ((with_reducible refine gate_dst (N := 1) rfl ?_); refine ev_box rfl rfl (r.cells A c) rfl ?_; intro g1 W1 hg1 hsz hbn; have hgr := grown_of_below hbn; have zg1 : w.heap.size ≤ g1 := (by have := HB.size; omega); replace HB := HB.grown hgr (by have := HB.size; omega) (by simp); have hcg1 := hg1.cell; have hfg1 := hg1.frozen; clear hsz hbn hgr)
    | (go_at_call 36; (with_reducible refine (started3_calls _ (HT.out.next HB)).mono ?_); rintro e W2 ⟨rfl, hb⟩; have hgr := grown_of_below hb; replace hg1 := hg1.grown hgr (by simp); replace HB := HB.grown hgr (by have := HB.size; omega) (by simp); replace hcg1 := hg1.cell; replace hfg1 := hg1.frozen; clear hb hgr)
    | ((with_reducible refine gate_dst (N := 12) rfl ?_); refine wpList_load_row rfl _ _ rfl g1 rfl _ _ (0, 0) _ hg1 Tryd.underlying35 rfl rec_size ?_)
    | (go_at_call 74; (with_reducible refine (refClone_calls r A c _ (hd.next HB) hrl).mono ?_); rintro e W3 ⟨A3, c3, rfl, o3, hb⟩; have hgr := grown_of_below hb; replace o3 := own_mono o3 HB.size; replace hg1 := hg1.grown hgr (by simp); replace HB := HB.grown hgr (by have := HB.size; omega) (by simp); replace hcg1 := hg1.cell; replace hfg1 := hg1.frozen; clear hb hgr)
    | ((with_reducible refine gate_dst (N := 4) rfl ?_); refine ev_alloc rfl rfl _ rec_zero ?_; intro g4 W4 hg4 hsz hbn; have hgr := grown_of_below hbn; have ng1g4 : g1 ≠ g4 := (by have := hg1.lt; omega); replace hg4 : Blk W4 g4 _ (Rec.zero.cells none 0) := hg4; have zg4 : w.heap.size ≤ g4 := (by have := HB.size; omega); replace hg1 := hg1.grown hgr (by simp); replace o3 := o3.kept hgr (by cases Value.ownBlock _ <;> simp); replace HB := HB.grown hgr (by have := HB.size; omega) (by simp); have hcg4 := hg4.cell; have hfg4 := hg4.frozen; replace hcg1 := hg1.cell; replace hfg1 := hg1.frozen; clear hsz hbn hgr)
    | ((with_reducible refine gate_store (p := 4) rfl ?_); refine ev_store_row (cs := r.cells A3 c3) rfl rfl rfl hg4 rfl rfl rec_size rfl (cells_one _ _ _) ?_; intro W5 hgn hgr; replace hg1 := hg1.grown hgr (by intro e; injection e with e; omega); replace o3 := o3.kept hgr (.inr (own_blk_ne o3 hg4 (by decide))); replace HB := HB.grown hgr (by have := HB.size; omega) (by intro k e; injection e with e; omega); replace hg4 := hgn; replace hcg1 := hg1.cell; replace hfg1 := hg1.frozen; replace hcg4 := hg4.cell; replace hfg4 := hg4.frozen; clear hgn hgr)
    | ((with_reducible refine gate_dst (N := 15) rfl ?_); refine wpList_load_row rfl _ _ rfl g1 rfl _ _ (0, 0) _ hg1 Tryd.underlying35 rfl rec_size ?_)
    | (go_at_call 76; (with_reducible refine (Ce.out _ (HT.out.next HB) (hd.next HB)).mono ?_); rintro e W6 ⟨A5, c5, rfl, o5, hb⟩; have hgr := grown_of_below hb; have do3o5 := own_apart o3 o5 (Nat.le_refl _); replace o5 := own_mono o5 HB.size; replace hg1 := hg1.grown hgr (by simp); replace hg4 := hg4.grown hgr (by simp); replace o3 := o3.kept hgr (by cases Value.ownBlock _ <;> simp); replace HB := HB.grown hgr (by have := HB.size; omega) (by simp); replace hcg1 := hg1.cell; replace hfg1 := hg1.frozen; replace hcg4 := hg4.cell; replace hfg4 := hg4.frozen; clear hb hgr)
    | ((with_reducible refine gate_dst (N := 20) rfl ?_); refine wpList_load_row rfl _ _ rfl g1 rfl _ _ (0, 0) _ hg1 Tryd.underlying35 rfl rec_size ?_)
    | (go_at_call 77; (with_reducible refine (Cs.out _ (HT.out.next HB) (hd.next HB)).mono ?_); rintro e W7 ⟨rfl, hb⟩; have hgr := grown_of_below hb; replace hg1 := hg1.grown hgr (by simp); replace hg4 := hg4.grown hgr (by simp); replace o3 := o3.kept hgr (by cases Value.ownBlock _ <;> simp); replace o5 := o5.kept hgr (by cases Value.ownBlock _ <;> simp); replace HB := HB.grown hgr (by have := HB.size; omega) (by simp); replace hcg1 := hg1.cell; replace hfg1 := hg1.frozen; replace hcg4 := hg4.cell; replace hfg4 := hg4.frozen; clear hb hgr)
    | ((with_reducible refine gate_dst (N := 25) rfl ?_); refine wpList_load_row rfl _ _ rfl g4 rfl _ _ (0, 0) _ hg4 Tryd.underlying35 rfl rec_size ?_)
    | (go_at_call 78; (with_reducible refine (Cr.out _ _ _ (HR.out.next HB) (own_rb o3)).mono ?_); rintro e W8 ⟨A6, c6, rfl, o6, hb⟩; have hgr := grown_of_below hb; have do3o6 := own_apart o3 o6 (Nat.le_refl _); have do5o6 := own_apart o5 o6 (Nat.le_refl _); replace o6 := own_mono o6 HB.size; replace hg1 := hg1.grown hgr (by simp); replace hg4 := hg4.grown hgr (by simp); replace o3 := o3.kept hgr (by cases Value.ownBlock _ <;> simp); replace o5 := o5.kept hgr (by cases Value.ownBlock _ <;> simp); replace HB := HB.grown hgr (by have := HB.size; omega) (by simp); replace hcg1 := hg1.cell; replace hfg1 := hg1.frozen; replace hcg4 := hg4.cell; replace hfg4 := hg4.frozen; clear hb hgr)
    | (go_at_call 53; (with_reducible refine (num3_calls _ _).mono ?_); rintro e w1 ⟨rfl, rfl⟩)
    | (go_at_call 79; (with_reducible refine (refAlike_true b _ _ _ _ _ (own_rb o5) (own_rb o6) (by omega)).mono ?_); rintro e W9 ⟨rfl, hb⟩; have hgr := grown_of_below hb; replace hg1 := hg1.grown hgr (by simp); replace hg4 := hg4.grown hgr (by simp); replace o3 := o3.kept hgr (by cases Value.ownBlock _ <;> simp); replace o5 := o5.kept hgr (by cases Value.ownBlock _ <;> simp); replace o6 := o6.kept hgr (by cases Value.ownBlock _ <;> simp); replace HB := HB.grown hgr (by have := HB.size; omega) (by simp); replace hcg1 := hg1.cell; replace hfg1 := hg1.frozen; replace hcg4 := hg4.cell; replace hfg4 := hg4.frozen; clear hb hgr)
    | ((with_reducible refine gate_dst (N := 54) rfl ?_); refine wpList_ungate ?_ ?_; focus (first | rfl | (simp [Region.wanted, yielded]; done)); refine wpList_load_row rfl _ _ rfl g1 rfl _ _ (0, 0) _ hg1 Tryd.underlying35 rfl rec_size ?_)
    | ((with_reducible refine gate_dst (N := 55) rfl ?_); refine wpList_ungate ?_ ?_; focus (first | rfl | (simp [Region.wanted, yielded]; done)); refine wpList_load_row rfl _ _ rfl g4 rfl _ _ (0, 0) _ hg4 Tryd.underlying35 rfl rec_size ?_)
    | (go_at_call 35; (with_reducible refine (same3 r _ _ _ _ _ (hd.next HB) (own_rb o3) hrl).mono ?_); rintro e W10 ⟨rfl, hb⟩; have hgr := grown_of_below hb; replace hg1 := hg1.grown hgr (by simp); replace hg4 := hg4.grown hgr (by simp); replace o3 := o3.kept hgr (by cases Value.ownBlock _ <;> simp); replace o5 := o5.kept hgr (by cases Value.ownBlock _ <;> simp); replace o6 := o6.kept hgr (by cases Value.ownBlock _ <;> simp); replace HB := HB.grown hgr (by have := HB.size; omega) (by simp); replace hcg1 := hg1.cell; replace hfg1 := hg1.frozen; replace hcg4 := hg4.cell; replace hfg4 := hg4.frozen; clear hb hgr))
  go_ret
  exact ⟨rfl, HB⟩
theorem recordWrites_calls (r : Rec) (A : Option Addr) (c : Nat) (hf : r.Fits) (hcd : -9223372036854775808 ≤ r.Code ∧ r.Code ≤ 9223372036854775807) (hz : r.Name.size ≤ 1099511627776) (w : World) (hT : Tabs w) (hR : RTabs w) (hd : RB w A r.Data) :
    Calls Tryd.prog 21 #[.agg (r.cells A c)] w fun e w' => e = .returned (.bool true) ∧ Below w.heap.size w w' := by
  by_cases hc : r.chk = 0
  · exact writes_good r A c hf hcd w hT hR hd hc
  · exact writes_bad r A c hf hz w hT hR hd hc
theorem ints_code {r : Rec} (h : r.Ints) : -9223372036854775808 ≤ r.Code ∧ r.Code ≤ 9223372036854775807 := by
  simpa [Lit.wf, IntKind.min, IntKind.max, IntKind.signed, IntKind.bits] using h.code
end Go.Proofs.YtjhiohjpkdjkoaaDoor
