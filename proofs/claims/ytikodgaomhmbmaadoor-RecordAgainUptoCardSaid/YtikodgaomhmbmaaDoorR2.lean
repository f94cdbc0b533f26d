/-
  The walks of record.Clone, annalsref3.Clone, annalsref3.Same.
-/
import Derived.Test.YtikodgaomhmbmaaDoorR1
import Derived.Test.YtikodgaomhmbmaaDoorB1
set_option linter.unusedVariables false
set_option linter.unusedSimpArgs false
namespace Go.Proofs.YtikodgaomhmbmaaDoor
open Go.RowKit
attribute [local go_sem] Rec.size_ Rec.g0 Rec.g1 Rec.g2 Rec.g3 Rec.g4 Rec.g5 Rec.g6 Rec.g7 Rec.g8 Rec.g9 Rec.g10 Rec.g11

/-- record.Clone: the same record, its Data in new memory of its own. -/
theorem clone_calls (r : Rec) (A : Option Addr) (c : Nat) (w : World) (hr : RB w A r.Data) (hl : r.Data.length ≤ 140737488351232) :
    Calls Tryd.prog 19 #[.agg (r.cells A c)] w fun e w' => ∃ A' c', e = .returned (.agg (r.cells A' c')) ∧ w'.ownsRow w.heap.size 5 1 (.slice A' r.Data.length c') r.Data.length (u8s r.Data) ∧ Below w.heap.size w w' := by
  have HB := Below.refl w.heap.size w
  go_enter Tryd.func19, Tryd.ntmps19
  go_wp2_with (first
    | ((with_reducible refine gate_dst (N := 1) rfl ?_); refine ev_box rfl rfl (r.cells A c) rfl ?_; intro g1 W1 hg1 hsz hbn; have hgr := grown_of_below hbn; have zg1 : w.heap.size ≤ g1 := (by have := HB.size; omega); replace HB := HB.grown hgr (by have := HB.size; omega) (by simp); have hcg1 := hg1.cell; have hfg1 := hg1.frozen; clear hsz hbn hgr)
    | ((with_reducible refine gate_dst (N := 2) rfl ?_); refine ev_alloc rfl rfl _ rec_zero ?_; intro g2 W2 hg2 hsz hbn; have hgr := grown_of_below hbn; have ng1g2 : g1 ≠ g2 := (by have := hg1.lt; omega); replace hg2 : Blk W2 g2 _ (Rec.zero.cells none 0) := hg2; have zg2 : w.heap.size ≤ g2 := (by have := HB.size; omega); replace hg1 := hg1.grown hgr (by simp); replace HB := HB.grown hgr (by have := HB.size; omega) (by simp); have hcg2 := hg2.cell; have hfg2 := hg2.frozen; replace hcg1 := hg1.cell; replace hfg1 := hg1.frozen; clear hsz hbn hgr)
    | ((with_reducible refine gate_dst (N := 5) rfl ?_); refine ev_append_nil rfl rfl Tryd.underlying25 info_u8 rfl (by omega) rfl rfl (hr.next HB) u8s_one (by omega) (by omega) ?_; intro A3 c3 W3 o3 hbn; have hgr := grown_of_below hbn; replace o3 := own_mono o3 HB.size; replace hg1 := hg1.grown hgr (by simp); replace hg2 := hg2.grown hgr (by simp); replace HB := HB.grown hgr (by have := HB.size; omega) (by simp); replace hcg1 := hg1.cell; replace hfg1 := hg1.frozen; replace hcg2 := hg2.cell; replace hfg2 := hg2.frozen; clear hbn hgr)
    | ((with_reducible refine gate_store (p := 6) rfl ?_); refine ev_store_cell rfl rfl rfl hg1 rfl (i := 11) (v := .slice A3 r.Data.length c3) rfl rfl (by kernel_rfl) (by first | exact (show (11 : Nat) < 12 by decide) | exact (show (11 : Nat) < 16 by decide) | exact (show (11 : Nat) < 6 by decide)) ?_; intro W4 hgn hgr; replace hgn : Blk W4 g1 _ (r.cells A3 c3) := hgn; replace hg2 := hg2.grown hgr (by intro e; injection e with e; omega); replace o3 := o3.kept hgr (.inr (own_blk_ne o3 hg1 (by decide))); replace HB := HB.grown hgr (by have := HB.size; omega) (by intro k e; injection e with e; omega); replace hg1 := hgn; replace hcg1 := hg1.cell; replace hfg1 := hg1.frozen; replace hcg2 := hg2.cell; replace hfg2 := hg2.frozen; clear hgn hgr)
    | ((with_reducible refine gate_dst (N := 7) rfl ?_); refine wpList_load_row rfl _ _ rfl g1 rfl _ _ (0, 0) _ hg1 Tryd.underlying27 rfl rec_size ?_)
    | ((with_reducible refine gate_store (p := 2) rfl ?_); refine ev_store_row (cs := r.cells A3 c3) rfl rfl rfl hg2 rfl rfl rec_size rfl (cells_one _ _ _) ?_; intro W5 hgn hgr; replace hg1 := hg1.grown hgr (by intro e; injection e with e; omega); replace o3 := o3.kept hgr (.inr (own_blk_ne o3 hg2 (by decide))); replace HB := HB.grown hgr (by have := HB.size; omega) (by intro k e; injection e with e; omega); replace hg2 := hgn; replace hcg1 := hg1.cell; replace hfg1 := hg1.frozen; replace hcg2 := hg2.cell; replace hfg2 := hg2.frozen; clear hgn hgr))
  refine bodyPost_ret (results_cell_row rfl _ _ g2 _ _ (0, 0) _ rfl hg2 Tryd.underlying27 rfl rec_size) rfl ?_
  exact ⟨A3, c3, rfl, o3, HB⟩

/-- annalsref3.Clone: the same record, its Data in new memory of its own. -/
theorem refClone_calls (r : Rec) (A : Option Addr) (c : Nat) (w : World) (hr : RB w A r.Data) (hl : r.Data.length ≤ 140737488351232) :
    Calls Tryd.prog 46 #[.agg (r.cells A c)] w fun e w' => ∃ A' c', e = .returned (.agg (r.cells A' c')) ∧ w'.ownsRow w.heap.size 5 1 (.slice A' r.Data.length c') r.Data.length (u8s r.Data) ∧ Below w.heap.size w w' := by
  have HB := Below.refl w.heap.size w
  have hp : ∀ W, RB W A r.Data → Calls Tryd.prog 68 #[.slice A r.Data.length c, .int .i64 0, .int .i64 r.Data.length] W fun e w' => ∃ A' c', e = .returned (.slice A' r.Data.length c') ∧
      w'.ownsRow W.heap.size 5 1 (.slice A' r.Data.length c') r.Data.length (u8s r.Data) ∧ Below W.heap.size W w' := fun W h => by
    have := part_calls r.Data A c 0 r.Data.length W h hl (by omega) (by omega) (by omega)
    simpa using this
  have Hp := Lib.hid hp
  clear hp
  go_enter Tryd.func46, Tryd.ntmps46
  go_wp2_with (first
    | ((with_reducible refine gate_dst (N := 1) rfl ?_); refine ev_box rfl rfl (r.cells A c) rfl ?_; intro g1 W1 hg1 hsz hbn; have hgr := grown_of_below hbn; have zg1 : w.heap.size ≤ g1 := (by have := HB.size; omega); replace HB := HB.grown hgr (by have := HB.size; omega) (by simp); have hcg1 := hg1.cell; have hfg1 := hg1.frozen; clear hsz hbn hgr)
    | ((with_reducible refine gate_dst (N := 2) rfl ?_); refine ev_alloc rfl rfl _ rec_zero ?_; intro g2 W2 hg2 hsz hbn; have hgr := grown_of_below hbn; have ng1g2 : g1 ≠ g2 := (by have := hg1.lt; omega); replace hg2 : Blk W2 g2 _ (Rec.zero.cells none 0) := hg2; have zg2 : w.heap.size ≤ g2 := (by have := HB.size; omega); replace hg1 := hg1.grown hgr (by simp); replace HB := HB.grown hgr (by have := HB.size; omega) (by simp); have hcg2 := hg2.cell; have hfg2 := hg2.frozen; replace hcg1 := hg1.cell; replace hfg1 := hg1.frozen; clear hsz hbn hgr)
    | (go_at_call 68; (with_reducible refine (Hp.out _ (hr.next HB)).mono ?_); rintro e W3 ⟨A3, c3, rfl, o3, hb⟩; have hgr := grown_of_below hb; replace o3 := own_mono o3 HB.size; replace hg1 := hg1.grown hgr (by simp); replace hg2 := hg2.grown hgr (by simp); replace HB := HB.grown hgr (by have := HB.size; omega) (by simp); replace hcg1 := hg1.cell; replace hfg1 := hg1.frozen; replace hcg2 := hg2.cell; replace hfg2 := hg2.frozen; clear hb hgr)
    | ((with_reducible refine gate_store (p := 9) rfl ?_); refine ev_store_cell rfl rfl rfl hg1 rfl (i := 11) (v := .slice A3 r.Data.length c3) rfl rfl (by kernel_rfl) (by first | exact (show (11 : Nat) < 12 by decide) | exact (show (11 : Nat) < 16 by decide) | exact (show (11 : Nat) < 6 by decide)) ?_; intro W4 hgn hgr; replace hgn : Blk W4 g1 _ (r.cells A3 c3) := hgn; replace hg2 := hg2.grown hgr (by intro e; injection e with e; omega); replace o3 := o3.kept hgr (.inr (own_blk_ne o3 hg1 (by decide))); replace HB := HB.grown hgr (by have := HB.size; omega) (by intro k e; injection e with e; omega); replace hg1 := hgn; replace hcg1 := hg1.cell; replace hfg1 := hg1.frozen; replace hcg2 := hg2.cell; replace hfg2 := hg2.frozen; clear hgn hgr)
    | ((with_reducible refine gate_dst (N := 10) rfl ?_); refine wpList_load_row rfl _ _ rfl g1 rfl _ _ (0, 0) _ hg1 Tryd.underlying27 rfl rec_size ?_)
    | ((with_reducible refine gate_store (p := 2) rfl ?_); refine ev_store_row (cs := r.cells A3 c3) rfl rfl rfl hg2 rfl rfl rec_size rfl (cells_one _ _ _) ?_; intro W5 hgn hgr; replace hg1 := hg1.grown hgr (by intro e; injection e with e; omega); replace o3 := o3.kept hgr (.inr (own_blk_ne o3 hg2 (by decide))); replace HB := HB.grown hgr (by have := HB.size; omega) (by intro k e; injection e with e; omega); replace hg2 := hgn; replace hcg1 := hg1.cell; replace hfg1 := hg1.frozen; replace hcg2 := hg2.cell; replace hfg2 := hg2.frozen; clear hgn hgr))
  refine bodyPost_ret (results_cell_row rfl _ _ g2 _ _ (0, 0) _ rfl hg2 Tryd.underlying27 rfl rec_size) rfl ?_
  exact ⟨A3, c3, rfl, o3, HB⟩

set_option maxHeartbeats 1000000 in
set_option maxRecDepth 100000 in
/-- annalsref3.Same. -/
theorem refSame_calls (a b : Rec) (A B : Option Addr) (c d : Nat) (w : World) (ha : RB w A a.Data) (hb : RB w B b.Data) (hla : a.Data.length ≤ 140737488351232) (hlb : b.Data.length ≤ 140737488351232) :
    Calls Tryd.prog 42 #[.agg (a.cells A c), .agg (b.cells B d)] w fun e w' => e = .returned (.bool (a.same b)) ∧ Below w.heap.size w w' := by
  have HB := Below.refl w.heap.size w
  go_enter Tryd.func42, Tryd.ntmps42
  go_wp2_with (first
    | ((with_reducible refine gate_dst (N := 2) rfl ?_); refine ev_box rfl rfl (a.cells A c) rfl ?_; intro g1 W1 hg1 hsz hbn; have hgr := grown_of_below hbn; have zg1 : w.heap.size ≤ g1 := (by have := HB.size; omega); replace HB := HB.grown hgr (by have := HB.size; omega) (by simp); have hcg1 := hg1.cell; have hfg1 := hg1.frozen; clear hsz hbn hgr)
    | ((with_reducible refine gate_dst (N := 3) rfl ?_); refine ev_box rfl rfl (b.cells B d) rfl ?_; intro g2 W2 hg2 hsz hbn; have hgr := grown_of_below hbn; have ng1g2 : g1 ≠ g2 := (by have := hg1.lt; omega); have zg2 : w.heap.size ≤ g2 := (by have := HB.size; omega); replace hg1 := hg1.grown hgr (by simp); replace HB := HB.grown hgr (by have := HB.size; omega) (by simp); have hcg2 := hg2.cell; have hfg2 := hg2.frozen; replace hcg1 := hg1.cell; replace hfg1 := hg1.frozen; clear hsz hbn hgr))
  go_loopg [5] 9 (fun n v5 wr => ∃ k : Nat, 1 ≤ k ∧ n + k = 10 ∧ v5 = .int .i64 k ∧ Aside ((∀ j, 1 ≤ j → j < k → a.num j = b.num j) ∧ Blk wr g1 _ (a.cells A c) ∧ Blk wr g2 _ (b.cells B d) ∧ Below w.heap.size w wr))
  case atStart => exact ⟨1, by omega, by omega, rfl, ⟨fun j h1 h2 => by omega, hg1, hg2, HB⟩⟩
  case round =>
    clear hcg1 hfg1 hcg2 hfg2 hg1 hg2 HB
    obtain ⟨k, hk1, hn, rfl, HA⟩ := hrel
    have hg1 := HA.out.2.1
    have hg2 := HA.out.2.2.1
    have HB := HA.out.2.2.2
    by_cases h9 : k ≤ 9
    · by_cases hx : a.num k = b.num k
      · have hx1 := int_beq_true hx
        have hx2 := int_bne_false hx
        have Hx := Lib.hid hx
        clear hx
        go_wp2_with (first
          | ((with_reducible refine gate_dst (N := 12) rfl ?_); refine wpList_load_row rfl _ _ rfl g1 rfl _ _ (0, 0) _ hg1 Tryd.underlying27 rfl rec_size ?_)
          | ((with_reducible refine gate_dst (N := 15) rfl ?_); refine wpList_load_row rfl _ _ rfl g2 rfl _ _ (0, 0) _ hg2 Tryd.underlying27 rfl rec_size ?_)
          | (go_at_call 67; (with_reducible refine (refNumber_calls a A c k hk1 h9 _).mono ?_); rintro e W1 ⟨rfl, hb⟩; have hgr := grown_of_below hb; replace hg1 := hg1.grown hgr (by simp); replace hg2 := hg2.grown hgr (by simp); replace HB := HB.grown hgr (by have := HB.size; omega) (by simp); replace hcg1 := hg1.cell; replace hfg1 := hg1.frozen; replace hcg2 := hg2.cell; replace hfg2 := hg2.frozen; clear hb hgr)
          | (go_at_call 67; (with_reducible refine (refNumber_calls b B d k hk1 h9 _).mono ?_); rintro e W2 ⟨rfl, hb⟩; have hgr := grown_of_below hb; replace hg1 := hg1.grown hgr (by simp); replace hg2 := hg2.grown hgr (by simp); replace HB := HB.grown hgr (by have := HB.size; omega) (by simp); replace hcg1 := hg1.cell; replace hfg1 := hg1.frozen; replace hcg2 := hg2.cell; replace hfg2 := hg2.frozen; clear hb hgr))
        go_roundg (gk - 1)
        case measure => omega
        case rel => exact ⟨k + 1, by omega, by omega, by go_num, ⟨fun j h1 h2 => by
          rcases Nat.lt_or_ge j k with hjk | hjk
          · exact HA.out.1 j h1 hjk
          · obtain rfl : j = k := by omega
            exact Hx.out, hg1, hg2, HB⟩⟩
      · have hx1 := int_beq_false hx
        have hx2 := int_bne_true hx
        have Hx := Lib.hid hx
        clear hx
        go_wp2_with (first
          | ((with_reducible refine gate_dst (N := 12) rfl ?_); refine wpList_load_row rfl _ _ rfl g1 rfl _ _ (0, 0) _ hg1 Tryd.underlying27 rfl rec_size ?_)
          | ((with_reducible refine gate_dst (N := 15) rfl ?_); refine wpList_load_row rfl _ _ rfl g2 rfl _ _ (0, 0) _ hg2 Tryd.underlying27 rfl rec_size ?_)
          | (go_at_call 67; (with_reducible refine (refNumber_calls a A c k hk1 h9 _).mono ?_); rintro e W1 ⟨rfl, hb⟩; have hgr := grown_of_below hb; replace hg1 := hg1.grown hgr (by simp); replace hg2 := hg2.grown hgr (by simp); replace HB := HB.grown hgr (by have := HB.size; omega) (by simp); replace hcg1 := hg1.cell; replace hfg1 := hg1.frozen; replace hcg2 := hg2.cell; replace hfg2 := hg2.frozen; clear hb hgr)
          | (go_at_call 67; (with_reducible refine (refNumber_calls b B d k hk1 h9 _).mono ?_); rintro e W2 ⟨rfl, hb⟩; have hgr := grown_of_below hb; replace hg1 := hg1.grown hgr (by simp); replace hg2 := hg2.grown hgr (by simp); replace HB := HB.grown hgr (by have := HB.size; omega) (by simp); replace hcg1 := hg1.cell; replace hfg1 := hg1.frozen; replace hcg2 := hg2.cell; replace hfg2 := hg2.frozen; clear hb hgr))
        go_ret
        exact ⟨ret_bool (Rec.same_false (fun e => Hx.out (by rw [e]))).symm, HB⟩
    · obtain rfl : k = 10 := by omega
      have hcg1 := hg1.cell
      have hcg2 := hg2.cell
      have hnums : ∀ j, 1 ≤ j → j ≤ 9 → a.num j = b.num j := fun j h1 h2 => HA.out.1 j h1 (by omega)
      have Hnums := Lib.hid hnums
      clear hnums
      by_cases hv : a.V = b.V
      · have hv1 := int_beq_true hv
        have Hv := Lib.hid hv
        clear hv
        by_cases hm : a.Name = b.Name
        · have hm1 : (a.Name.toList == b.Name.toList) = true := by simp [hm]
          have Hm := Lib.hid hm
          clear hm
          by_cases hd : a.Data = b.Data
          · have hd1 : (a.Data == b.Data) = true := by simp [hd]
            have Hd := Lib.hid hd
            clear hd
            go_wp2_with (first
              | (go_at_call 57; (with_reducible refine (refAlike_calls a.Data b.Data A B c d _ (ha.next HB) (hb.next HB) hla hlb).mono ?_); rintro e W1 ⟨rfl, hb⟩; have hgr := grown_of_below hb; replace hg1 := hg1.grown hgr (by simp); replace hg2 := hg2.grown hgr (by simp); replace HB := HB.grown hgr (by have := HB.size; omega) (by simp); replace hcg1 := hg1.cell; replace hfg1 := hg1.frozen; replace hcg2 := hg2.cell; replace hfg2 := hg2.frozen; clear hb hgr))
            go_ret
            exact ⟨ret_bool (by rw [Rec.same_true (Rec.eq_of_nums Hv.out Hnums.out Hm.out Hd.out)]), HB⟩
          · have hd1 : (a.Data == b.Data) = false := by simp [hd]
            have Hd := Lib.hid hd
            clear hd
            go_wp2_with (first
              | (go_at_call 57; (with_reducible refine (refAlike_calls a.Data b.Data A B c d _ (ha.next HB) (hb.next HB) hla hlb).mono ?_); rintro e W1 ⟨rfl, hb⟩; have hgr := grown_of_below hb; replace hg1 := hg1.grown hgr (by simp); replace hg2 := hg2.grown hgr (by simp); replace HB := HB.grown hgr (by have := HB.size; omega) (by simp); replace hcg1 := hg1.cell; replace hfg1 := hg1.frozen; replace hcg2 := hg2.cell; replace hfg2 := hg2.frozen; clear hb hgr))
            go_ret
            exact ⟨ret_bool (by rw [Rec.same_false (fun e => Hd.out (by rw [e]))]), HB⟩
        · have hm1 : (a.Name.toList == b.Name.toList) = false := name_ne hm
          have Hm := Lib.hid hm
          clear hm
          go_wp2
          go_ret
          exact ⟨ret_bool (Rec.same_false (fun e => Hm.out (by rw [e]))).symm, HB⟩
      · have hv1 := int_beq_false hv
        have Hv := Lib.hid hv
        clear hv
        go_wp2
        go_ret
        exact ⟨ret_bool (Rec.same_false (fun e => Hv.out (by rw [e]))).symm, HB⟩
end Go.Proofs.YtikodgaomhmbmaaDoor
