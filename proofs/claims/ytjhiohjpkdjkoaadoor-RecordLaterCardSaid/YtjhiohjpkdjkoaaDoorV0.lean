/-
  record.Encode of a record that is not valid; record.Size.
-/
import Derived.Test.YtjhiohjpkdjkoaaDoorW7
set_option linter.unusedVariables false
set_option linter.unusedSimpArgs false
namespace Go.Proofs.YtjhiohjpkdjkoaaDoor
open Go.RowKit
attribute [local go_sem] Rec.size_ Rec.g0 Rec.g1 Rec.g2 Rec.g3 Rec.g4 Rec.g5 Rec.g6 Rec.g7 Rec.g8 Rec.g9 Rec.g10 Rec.g11 Rec.fold Rec.same_self

set_option maxHeartbeats 1000000 in
set_option maxRecDepth 100000 in
theorem encode_bad (r : Rec) (A : Option Addr) (c : Nat) (k : Int) (hk : r.chk = k) (h0 : k ≠ 0) (hf : r.Fits) (w : World) (hT : Tabs w) (hd : RB w A r.Data) :
    Calls Tryd.prog 76 #[.agg (r.cells A c)] w fun e w' => e = .returned (.tuple #[.slice none 0 0, .int .i64 k]) ∧ Below w.heap.size w w' := by
  have HB := Below.refl w.heap.size w
  have HT := Lib.hid hT
  have t1 := int_bne_true h0
  have cc := fun w => check_calls r A c hf w
  rw [hk] at cc
  have Cc := Lib.hid cc
  clear hT cc hk h0
  go_enter Tryd.func76, Tryd.ntmps76
  go_wp2_with (first
    | ((with_reducible refine gate_dst (N := 1) rfl ?_); refine ev_box rfl rfl (r.cells A c) rfl ?_; intro g1 W1 hg1 hsz hbn; have hgr := grown_of_below hbn; have zg1 : w.heap.size ≤ g1 := (by have := HB.size; omega); replace HB := HB.grown hgr (by have := HB.size; omega) (by simp); have hcg1 := hg1.cell; have hfg1 := hg1.frozen; clear hsz hbn hgr)
    | ((with_reducible refine gate_dst (N := 7) rfl ?_); refine wpList_load_row rfl _ _ rfl g1 rfl _ _ (0, 0) _ hg1 Tryd.underlying35 rfl rec_size ?_)
    | (go_at_call 75; (with_reducible refine (Cc.out _ (HT.out.next HB) (hd.next HB)).mono ?_); rintro e W2 ⟨rfl, hb⟩; have hgr := grown_of_below hb; replace hg1 := hg1.grown hgr (by simp); replace HB := HB.grown hgr (by have := HB.size; omega) (by simp); replace hcg1 := hg1.cell; replace hfg1 := hg1.frozen; clear hb hgr))
  go_ret2
  exact ⟨rfl, HB⟩
set_option maxRecDepth 100000 in
theorem size_bad (r : Rec) (A : Option Addr) (c : Nat) (k : Int) (hk : r.chk = k) (h0 : k ≠ 0) (hf : r.Fits) (w : World) (hT : Tabs w) (hd : RB w A r.Data) :
    Calls Tryd.prog 77 #[.agg (r.cells A c)] w fun e w' => e = .returned (.tuple #[.int .i64 0, .int .i64 k]) ∧ Below w.heap.size w w' := by
  have HB := Below.refl w.heap.size w
  have HT := Lib.hid hT
  have ce := fun w => encode_bad r A c k hk h0 hf w
  have Ce := Lib.hid ce
  clear hT ce hk h0
  go_enter Tryd.func77, Tryd.ntmps77
  go_wp2_with (first
    | ((with_reducible refine gate_dst (N := 1) rfl ?_); refine ev_box rfl rfl (r.cells A c) rfl ?_; intro g1 W1 hg1 hsz hbn; have hgr := grown_of_below hbn; have zg1 : w.heap.size ≤ g1 := (by have := HB.size; omega); replace HB := HB.grown hgr (by have := HB.size; omega) (by simp); have hcg1 := hg1.cell; have hfg1 := hg1.frozen; clear hsz hbn hgr)
    | ((with_reducible refine gate_dst (N := 7) rfl ?_); refine wpList_load_row rfl _ _ rfl g1 rfl _ _ (0, 0) _ hg1 Tryd.underlying35 rfl rec_size ?_)
    | (go_at_call 76; (with_reducible refine (Ce.out _ (HT.out.next HB) (hd.next HB)).mono ?_); rintro e W2 ⟨rfl, hb⟩; have hgr := grown_of_below hb; replace hg1 := hg1.grown hgr (by simp); replace HB := HB.grown hgr (by have := HB.size; omega) (by simp); replace hcg1 := hg1.cell; replace hfg1 := hg1.frozen; clear hb hgr))
  go_ret2
  exact ⟨rfl, HB⟩
set_option maxRecDepth 100000 in
theorem size_calls (r : Rec) (A : Option Addr) (c : Nat) (hc : r.chk = 0) (hf : r.Fits) (w : World) (hT : Tabs w) (hd : RB w A r.Data) :
    Calls Tryd.prog 77 #[.agg (r.cells A c)] w fun e w' => e = .returned (.tuple #[.int .i64 r.enc.length, .int .i64 0]) ∧ Below w.heap.size w w' := by
  have HB := Below.refl w.heap.size w
  have HT := Lib.hid hT
  have ce := fun w hT hd => encode_calls r A c hf w hT hd hc
  have Ce := Lib.hid ce
  clear hT ce hc
  go_enter Tryd.func77, Tryd.ntmps77
  go_wp2_with (first
    | ((with_reducible refine gate_dst (N := 1) rfl ?_); refine ev_box rfl rfl (r.cells A c) rfl ?_; intro g1 W1 hg1 hsz hbn; have hgr := grown_of_below hbn; have zg1 : w.heap.size ≤ g1 := (by have := HB.size; omega); replace HB := HB.grown hgr (by have := HB.size; omega) (by simp); have hcg1 := hg1.cell; have hfg1 := hg1.frozen; clear hsz hbn hgr)
    | ((with_reducible refine gate_dst (N := 7) rfl ?_); refine wpList_load_row rfl _ _ rfl g1 rfl _ _ (0, 0) _ hg1 Tryd.underlying35 rfl rec_size ?_)
    | (go_at_call 76; (with_reducible refine (Ce.out _ (HT.out.next HB) (hd.next HB)).mono ?_); rintro e W2 ⟨A5, c5, rfl, o5, hb⟩; have hgr := grown_of_below hb; replace hg1 := hg1.grown hgr (by simp); replace HB := HB.grown hgr (by have := HB.size; omega) (by simp); replace hcg1 := hg1.cell; replace hfg1 := hg1.frozen; clear hb hgr))
  go_ret2
  exact ⟨rfl, HB⟩
end Go.Proofs.YtjhiohjpkdjkoaaDoor
