/-
  The walk of the law RecordLater.
-/
import Derived.Test.YtjhiohjpkdjkoaaDoorZ2
import Derived.Test.YtjhiohjpkdjkoaaDoorZ3
import Derived.Test.YtjhiohjpkdjkoaaDoorY3
set_option linter.unusedVariables false
set_option linter.unusedSimpArgs false
namespace Go.Proofs.YtjhiohjpkdjkoaaDoor
open Go.RowKit
attribute [local go_sem] Rec.size_ Rec.g0 Rec.g1 Rec.g2 Rec.g3 Rec.g4 Rec.g5 Rec.g6 Rec.g7 Rec.g8 Rec.g9 Rec.g10 Rec.g11 Rec.fold

/-- What the law reads first. -/
def sixL : List UInt8 := [1, 2, 2, 5, 4, 1]
def sixR : Rec := { Rec.zero with V := 2, Kind := 2, Saga := 5, Try := 1 }
theorem six_ints : sixR.Ints := by constructor <;> decide
theorem six_chk : sixR.chk = 0 := by decide +kernel
theorem six_tag {t n : Nat} (hz : sixR.zeroAt t = false) (h7 : t ≠ 7) (h10 : t ≠ 10) (h11 : t ≠ 11) (hn : (IntKind.u64.wrap (sixR.num t)).toNat = n) (ht : t < 128) (hn2 : n < 128) : sixR.tagB t = [UInt8.ofNat t, UInt8.ofNat n] := by
  have e : sixR.tagB t = uintL t ++ sixR.valB t := by unfold Rec.tagB; rw [hz]; rfl
  have e2 : sixR.valB t = uintL n := by unfold Rec.valB; rw [if_neg h7, if_neg h10, if_neg h11, hn]
  rw [e, e2, uintL_last ht, uintL_last hn2]
  rfl
theorem six_none {t : Nat} (hz : sixR.zeroAt t = true) : sixR.tagB t = [] := by unfold Rec.tagB; rw [hz]; rfl
theorem six_enc : sixR.enc = sixL := by
  unfold Rec.enc
  simp only [Rec.encTo]
  rw [six_tag (t := 1) (n := 2) (by decide) (by decide) (by decide) (by decide) (by decide) (by decide) (by decide), six_tag (t := 2) (n := 5) (by decide) (by decide) (by decide) (by decide) (by decide) (by decide) (by decide), six_none (t := 3) (by decide),
    six_tag (t := 4) (n := 1) (by decide) (by decide) (by decide) (by decide) (by decide) (by decide) (by decide), six_none (t := 5) (by decide), six_none (t := 6) (by decide), six_none (t := 7) (by decide), six_none (t := 8) (by decide), six_none (t := 9) (by decide), six_none (t := 10) (by decide), six_none (t := 11) (by decide)]
  rfl
theorem six_dec : decE 2 sixL = 0 ∧ decR 2 sixL = sixR := by
  have := dec_of_enc six_ints six_chk
  rwa [six_enc] at this

theorem decode_six (w : World) (hT : Tabs w) (g : Nat) (hg : Blk w g 5 #[.int .u8 1, .int .u8 2, .int .u8 2, .int .u8 5, .int .u8 4, .int .u8 1]) :
    Calls Tryd.prog 52 #[.int .i64 2, .slice (some ⟨g, 0, none⟩) 6 6] w fun e w' => ∃ A' c', e = .returned (.tuple #[.agg (sixR.cells A' c'), .int .i64 0])
      ∧ w'.ownsRow w.heap.size 5 1 (.slice A' 0 c') 0 [] ∧ Below w.heap.size w w' := by
  have hd : RB w (some ⟨g, 0, none⟩) sixL := hg.reads (size := 1) (n := 6) rfl
  have := decode_calls 2 sixL (some ⟨g, 0, none⟩) 6 (by decide) (by decide) w hT hd
  unfold DecSaid at this
  rw [six_dec.1, six_dec.2] at this
  exact this
set_option maxHeartbeats 4000000 in
set_option maxRecDepth 100000 in
theorem recordLater_calls (l : List UInt8) (L : Option Addr) (cl : Nat) (hcl : l.length ≤ cl) (hl : l.length ≤ 140737488351232) (w : World) (hT : Tabs w) (hd : RB w L l) :
    Calls Tryd.prog 10 #[.slice L l.length cl] w fun e w' => e = .returned (.bool true) ∧ Below w.heap.size w w' := by
  have HB := Below.refl w.heap.size w
  have HT := Lib.hid hT
  have m1 : True := trivial
  have m2 : True := trivial
  have cd2 := fun w hT hd => decode_calls 2 l L cl hcl hl w hT hd
  have s0 : sixR.V = 2 := rfl
  have s1 : sixR.Kind = 2 := rfl
  have s2 : sixR.Saga = 5 := rfl
  have s3 : sixR.Try = 1 := rfl
  unfold DecSaid at cd2
  by_cases h0 : decE 2 l = 0
  · have cd3 := fun w hT hd => decode_calls 3 l L cl hcl hl w hT hd
    unfold DecSaid at cd3
    obtain ⟨e1, e2⟩ := dec_later h0
    obtain ⟨_, e4, e5, _⟩ := enc_of_dec h0
    have hrl : (decR 2 l).Data.length ≤ 140737488351232 := by
      have := (valid_small e4).2
      omega
    rw [h0] at cd2
    rw [e1, e2] at cd3
    generalize decR 2 l = r at cd2 cd3 e5 hrl
    have t1 : (r.V == 2) = true := int_beq_true e5
    have Cd2 := Lib.hid cd2
    have Cd3 := Lib.hid cd3
    clear hT cd2 cd3 h0 e1 e2 e4 e5
    go_enter Tryd.func10, Tryd.ntmps10
    go_wp2_with (first
      | ((with_reducible refine gate_dst (N := 8) rfl ?_); refine ev_lit rfl rfl (#[.int .u8 1, .int .u8 2, .int .u8 2, .int .u8 5, .int .u8 4, .int .u8 1]) 5 6 (by first | (go_simp; done) | (go_simp; rfl)) ?_; intro g8 W1 hg8 hsz hbn; have hgr := grown_of_below hbn; have zg8 : w.heap.size ≤ g8 := (by have := HB.size; omega); replace HB := HB.grown hgr (by have := HB.size; omega) (by simp); have hcg8 := hg8.cell; have hfg8 := hg8.frozen; clear hsz hbn hgr)
      | (go_at_call 52; clear m1; (with_reducible refine (decode_six _ (HT.out.next HB) g8 hg8).mono ?_); rintro e W2 ⟨A3, c3, rfl, o3, hb⟩; have hgr := grown_of_below hb; replace o3 := own_mono o3 HB.size; replace hg8 := hg8.grown hgr (by simp); replace HB := HB.grown hgr (by have := HB.size; omega) (by simp); replace hcg8 := hg8.cell; replace hfg8 := hg8.frozen; clear hb hgr)
      | ((with_reducible refine gate_dst (N := 3) rfl ?_); refine ev_alloc rfl rfl _ rec_zero ?_; intro g3 W3 hg3 hsz hbn; have hgr := grown_of_below hbn; replace hg3 : Blk W3 g3 _ (Rec.zero.cells none 0) := hg3; have zg3 : w.heap.size ≤ g3 := (by have := HB.size; omega); replace o3 := o3.kept hgr (by cases Value.ownBlock _ <;> simp); replace HB := HB.grown hgr (by have := HB.size; omega) (by simp); have hcg3 := hg3.cell; have hfg3 := hg3.frozen; clear hsz hbn hgr)
      | ((with_reducible refine gate_store (p := 3) rfl ?_); refine ev_store_row (cs := sixR.cells A3 c3) rfl rfl rfl hg3 rfl rfl rec_size rfl (cells_one _ _ _) ?_; intro W4 hgn hgr; replace o3 := o3.kept hgr (.inr (own_blk_ne o3 hg3 (by decide))); replace HB := HB.grown hgr (by have := HB.size; omega) (by intro k e; injection e with e; omega); replace hg3 := hgn; replace hcg3 := hg3.cell; replace hfg3 := hg3.frozen; clear hgn hgr)
      | (go_at_call 53; (with_reducible refine (num3_calls _ _).mono ?_); rintro e w1 ⟨rfl, rfl⟩)
      | (go_at_call 52; clear m2; (with_reducible refine (Cd2.out _ (HT.out.next HB) (hd.next HB)).mono ?_); rintro e W5 ⟨A4, c4, rfl, o4, hb⟩; have hgr := grown_of_below hb; have do3o4 := own_apart o3 o4 (Nat.le_refl _); replace o4 := own_mono o4 HB.size; replace hg3 := hg3.grown hgr (by simp); replace o3 := o3.kept hgr (by cases Value.ownBlock _ <;> simp); replace HB := HB.grown hgr (by have := HB.size; omega) (by simp); replace hcg3 := hg3.cell; replace hfg3 := hg3.frozen; clear hb hgr)
      | ((with_reducible refine gate_store (p := 3) rfl ?_); refine ev_store_row (cs := r.cells A4 c4) rfl rfl rfl hg3 rfl rfl rec_size rfl (cells_one _ _ _) ?_; intro W6 hgn hgr; replace o3 := o3.kept hgr (.inr (own_blk_ne o3 hg3 (by decide))); replace o4 := o4.kept hgr (.inr (own_blk_ne o4 hg3 (by decide))); replace HB := HB.grown hgr (by have := HB.size; omega) (by intro k e; injection e with e; omega); replace hg3 := hgn; replace hcg3 := hg3.cell; replace hfg3 := hg3.frozen; clear hgn hgr)
      | (go_at_call 52; (with_reducible refine (Cd3.out _ (HT.out.next HB) (hd.next HB)).mono ?_); rintro e W7 ⟨A6, c6, rfl, o6, hb⟩; have hgr := grown_of_below hb; have do3o6 := own_apart o3 o6 (Nat.le_refl _); have do4o6 := own_apart o4 o6 (Nat.le_refl _); replace o6 := own_mono o6 HB.size; replace hg3 := hg3.grown hgr (by simp); replace o3 := o3.kept hgr (by cases Value.ownBlock _ <;> simp); replace o4 := o4.kept hgr (by cases Value.ownBlock _ <;> simp); replace HB := HB.grown hgr (by have := HB.size; omega) (by simp); replace hcg3 := hg3.cell; replace hfg3 := hg3.frozen; clear hb hgr)
      | ((with_reducible refine gate_dst (N := 5) rfl ?_); refine ev_alloc rfl rfl _ rec_zero ?_; intro g5 W8 hg5 hsz hbn; have hgr := grown_of_below hbn; have ng3g5 : g3 ≠ g5 := (by have := hg3.lt; omega); replace hg5 : Blk W8 g5 _ (Rec.zero.cells none 0) := hg5; have zg5 : w.heap.size ≤ g5 := (by have := HB.size; omega); replace hg3 := hg3.grown hgr (by simp); replace o3 := o3.kept hgr (by cases Value.ownBlock _ <;> simp); replace o4 := o4.kept hgr (by cases Value.ownBlock _ <;> simp); replace o6 := o6.kept hgr (by cases Value.ownBlock _ <;> simp); replace HB := HB.grown hgr (by have := HB.size; omega) (by simp); have hcg5 := hg5.cell; have hfg5 := hg5.frozen; replace hcg3 := hg3.cell; replace hfg3 := hg3.frozen; clear hsz hbn hgr)
      | ((with_reducible refine gate_store (p := 5) rfl ?_); refine ev_store_row (cs := ({ r with V := 3 } : Rec).cells A6 c6) rfl rfl rfl hg5 rfl rfl rec_size rfl (cells_one _ _ _) ?_; intro W9 hgn hgr; replace hg3 := hg3.grown hgr (by intro e; injection e with e; omega); replace o3 := o3.kept hgr (.inr (own_blk_ne o3 hg5 (by decide))); replace o4 := o4.kept hgr (.inr (own_blk_ne o4 hg5 (by decide))); replace o6 := o6.kept hgr (.inr (own_blk_ne o6 hg5 (by decide))); replace HB := HB.grown hgr (by have := HB.size; omega) (by intro k e; injection e with e; omega); replace hg5 := hgn; replace hcg3 := hg3.cell; replace hfg3 := hg3.frozen; replace hcg5 := hg5.cell; replace hfg5 := hg5.frozen; clear hgn hgr)
      | ((with_reducible refine gate_dst (N := 62) rfl ?_); (first | (refine wpList_ungate ?_ ?_; focus (first | rfl | (simp [Region.wanted, yielded]; done))) | (refine wpList_ungate (by first | rfl | simp [Region.wanted, yielded]) ?_)); refine wpList_load_row rfl _ _ rfl g3 rfl _ _ (0, 0) _ hg3 Tryd.underlying35 rfl rec_size ?_)
      | ((with_reducible refine gate_dst (N := 63) rfl ?_); (first | (refine wpList_ungate ?_ ?_; focus (first | rfl | (simp [Region.wanted, yielded]; done))) | (refine wpList_ungate (by first | rfl | simp [Region.wanted, yielded]) ?_)); refine wpList_load_row rfl _ _ rfl g5 rfl _ _ (0, 0) _ hg5 Tryd.underlying35 rfl rec_size ?_)
      | (go_at_call 54; (with_reducible refine (equal_calls r 3 A4 A6 c4 c6 _ (own_rb o4) (own_rb o6) hrl).mono ?_); rintro e W10 ⟨rfl, hb⟩; have hgr := grown_of_below hb; replace hg3 := hg3.grown hgr (by simp); replace hg5 := hg5.grown hgr (by simp); replace o3 := o3.kept hgr (by cases Value.ownBlock _ <;> simp); replace o4 := o4.kept hgr (by cases Value.ownBlock _ <;> simp); replace o6 := o6.kept hgr (by cases Value.ownBlock _ <;> simp); replace HB := HB.grown hgr (by have := HB.size; omega) (by simp); replace hcg3 := hg3.cell; replace hfg3 := hg3.frozen; replace hcg5 := hg5.cell; replace hfg5 := hg5.frozen; clear hb hgr))
    go_ret
    exact ⟨rfl, HB⟩
  · have e2 : decR 2 l = Rec.zero := if_neg h0
    rw [e2] at cd2
    have t1 := int_bne_true h0
    generalize decE 2 l = k at cd2 t1
    have Cd2 := Lib.hid cd2
    clear hT cd2 h0 e2
    go_enter Tryd.func10, Tryd.ntmps10
    go_wp2_with (first
      | ((with_reducible refine gate_dst (N := 8) rfl ?_); refine ev_lit rfl rfl (#[.int .u8 1, .int .u8 2, .int .u8 2, .int .u8 5, .int .u8 4, .int .u8 1]) 5 6 (by first | (go_simp; done) | (go_simp; rfl)) ?_; intro g8 W1 hg8 hsz hbn; have hgr := grown_of_below hbn; have zg8 : w.heap.size ≤ g8 := (by have := HB.size; omega); replace HB := HB.grown hgr (by have := HB.size; omega) (by simp); have hcg8 := hg8.cell; have hfg8 := hg8.frozen; clear hsz hbn hgr)
      | (go_at_call 52; clear m1; (with_reducible refine (decode_six _ (HT.out.next HB) g8 hg8).mono ?_); rintro e W2 ⟨A3, c3, rfl, o3, hb⟩; have hgr := grown_of_below hb; replace o3 := own_mono o3 HB.size; replace hg8 := hg8.grown hgr (by simp); replace HB := HB.grown hgr (by have := HB.size; omega) (by simp); replace hcg8 := hg8.cell; replace hfg8 := hg8.frozen; clear hb hgr)
      | ((with_reducible refine gate_dst (N := 3) rfl ?_); refine ev_alloc rfl rfl _ rec_zero ?_; intro g3 W3 hg3 hsz hbn; have hgr := grown_of_below hbn; replace hg3 : Blk W3 g3 _ (Rec.zero.cells none 0) := hg3; have zg3 : w.heap.size ≤ g3 := (by have := HB.size; omega); replace o3 := o3.kept hgr (by cases Value.ownBlock _ <;> simp); replace HB := HB.grown hgr (by have := HB.size; omega) (by simp); have hcg3 := hg3.cell; have hfg3 := hg3.frozen; clear hsz hbn hgr)
      | ((with_reducible refine gate_store (p := 3) rfl ?_); refine ev_store_row (cs := sixR.cells A3 c3) rfl rfl rfl hg3 rfl rfl rec_size rfl (cells_one _ _ _) ?_; intro W4 hgn hgr; replace o3 := o3.kept hgr (.inr (own_blk_ne o3 hg3 (by decide))); replace HB := HB.grown hgr (by have := HB.size; omega) (by intro k e; injection e with e; omega); replace hg3 := hgn; replace hcg3 := hg3.cell; replace hfg3 := hg3.frozen; clear hgn hgr)
      | (go_at_call 53; (with_reducible refine (num3_calls _ _).mono ?_); rintro e w1 ⟨rfl, rfl⟩)
      | (go_at_call 52; (with_reducible refine (Cd2.out _ (HT.out.next HB) (hd.next HB)).mono ?_); rintro e W5 ⟨A4, c4, rfl, o4, hb⟩; have hgr := grown_of_below hb; have do3o4 := own_apart o3 o4 (Nat.le_refl _); replace o4 := own_mono o4 HB.size; replace hg3 := hg3.grown hgr (by simp); replace o3 := o3.kept hgr (by cases Value.ownBlock _ <;> simp); replace HB := HB.grown hgr (by have := HB.size; omega) (by simp); replace hcg3 := hg3.cell; replace hfg3 := hg3.frozen; clear hb hgr)
      | ((with_reducible refine gate_store (p := 3) rfl ?_); refine ev_store_row (cs := Rec.zero.cells A4 c4) rfl rfl rfl hg3 rfl rfl rec_size rfl (cells_one _ _ _) ?_; intro W6 hgn hgr; replace o3 := o3.kept hgr (.inr (own_blk_ne o3 hg3 (by decide))); replace o4 := o4.kept hgr (.inr (own_blk_ne o4 hg3 (by decide))); replace HB := HB.grown hgr (by have := HB.size; omega) (by intro k e; injection e with e; omega); replace hg3 := hgn; replace hcg3 := hg3.cell; replace hfg3 := hg3.frozen; clear hgn hgr))
    go_ret
    exact ⟨rfl, HB⟩
end Go.Proofs.YtjhiohjpkdjkoaaDoor
