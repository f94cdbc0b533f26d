/-
  The walk of annalslaw3.RecordLooks.
-/
import Derived.Test.YtjhiohjpkdjkoaaR2
import Derived.StillTailTactics
set_option linter.unusedVariables false
set_option linter.unusedSimpArgs false
namespace Go.Proofs.Ytjhiohjpkdjkoaa
open Go.RowKit
attribute [local go_sem] Rec.size_ Rec.g0 Rec.g1 Rec.g2 Rec.g3 Rec.g4 Rec.g5 Rec.g6 Rec.g7 Rec.g8 Rec.g9 Rec.g10 Rec.g11 Rec.fold Rec.same_self

theorem same_self_calls (a : Rec) (A : Option Addr) (c : Nat) (w : World) (ha : RB w A a.Data) :
    Calls Try.prog 16 #[.agg (a.cells A c), .agg (a.cells A c)] w fun e w' => e = .returned (.bool true) ∧ Below w.heap.size w w' := by
  have := same_calls a a A A c c w ha ha
  rwa [Rec.same_self] at this

set_option maxHeartbeats 2000000 in
set_option maxRecDepth 100000 in
theorem looks_calls (a b : Rec) (A B : Option Addr) (c d : Nat) (w : World) (ha : RB w A a.Data) (hb : RB w B b.Data) (hla : a.Data.length ≤ 140737488351232) (hlb : b.Data.length ≤ 140737488351232) :
    Calls Try.prog 5 #[.agg (a.cells A c), .agg (b.cells B d)] w fun e w' => e = .returned (.bool true) ∧ Below w.heap.size w w' := by
  have HB := Below.refl w.heap.size w
  go_enter Try.func5, Try.ntmps5
  go_wp2_with (first
    | ((with_reducible refine gate_dst (N := 2) rfl ?_); refine ev_box rfl rfl (a.cells A c) rfl ?_; intro g1 W1 hg1 hsz hbn; have hgr := grown_of_below hbn; have zg1 : w.heap.size ≤ g1 := (by have := HB.size; omega); replace HB := HB.grown hgr (by have := HB.size; omega) (by simp); have hcg1 := hg1.cell; have hfg1 := hg1.frozen; clear hsz hbn hgr)
    | ((with_reducible refine gate_dst (N := 3) rfl ?_); refine ev_box rfl rfl (b.cells B d) rfl ?_; intro g2 W2 hg2 hsz hbn; have hgr := grown_of_below hbn; have ng1g2 : g1 ≠ g2 := (by have := hg1.lt; omega); have zg2 : w.heap.size ≤ g2 := (by have := HB.size; omega); replace hg1 := hg1.grown hgr (by simp); replace HB := HB.grown hgr (by have := HB.size; omega) (by simp); have hcg2 := hg2.cell; have hfg2 := hg2.frozen; replace hcg1 := hg1.cell; replace hfg1 := hg1.frozen; clear hsz hbn hgr)
    | ((with_reducible refine gate_dst (N := 9) rfl ?_); refine wpList_load_row rfl _ _ rfl g1 rfl _ _ (0, 0) _ hg1 Try.underlying25 rfl rec_size ?_)
    | (go_at_call 15; (with_reducible refine (refClone_calls a A c _ (ha.next HB) hla).mono ?_); rintro e W3 ⟨A3, c3, rfl, o3, hb⟩; have hgr := grown_of_below hb; replace o3 := own_mono o3 HB.size; replace hg1 := hg1.grown hgr (by simp); replace hg2 := hg2.grown hgr (by simp); replace HB := HB.grown hgr (by have := HB.size; omega) (by simp); replace hcg1 := hg1.cell; replace hfg1 := hg1.frozen; replace hcg2 := hg2.cell; replace hfg2 := hg2.frozen; clear hb hgr)
    | ((with_reducible refine gate_dst (N := 5) rfl ?_); refine ev_alloc rfl rfl _ rec_zero ?_; intro g5 W4 hg5 hsz hbn; have hgr := grown_of_below hbn; have ng1g5 : g1 ≠ g5 := (by have := hg1.lt; omega); have ng2g5 : g2 ≠ g5 := (by have := hg2.lt; omega); replace hg5 : Blk W4 g5 _ (Rec.zero.cells none 0) := hg5; have zg5 : w.heap.size ≤ g5 := (by have := HB.size; omega); replace hg1 := hg1.grown hgr (by simp); replace hg2 := hg2.grown hgr (by simp); replace o3 := o3.kept hgr (by cases Value.ownBlock _ <;> simp); replace HB := HB.grown hgr (by have := HB.size; omega) (by simp); have hcg5 := hg5.cell; have hfg5 := hg5.frozen; replace hcg1 := hg1.cell; replace hfg1 := hg1.frozen; replace hcg2 := hg2.cell; replace hfg2 := hg2.frozen; clear hsz hbn hgr)
    | ((with_reducible refine gate_store (p := 5) rfl ?_); refine ev_store_row (cs := a.cells A3 c3) rfl rfl rfl hg5 rfl rfl rec_size rfl (cells_one _ _ _) ?_; intro W5 hgn hgr; replace hg1 := hg1.grown hgr (by intro e; injection e with e; omega); replace hg2 := hg2.grown hgr (by intro e; injection e with e; omega); replace o3 := o3.kept hgr (.inr (own_blk_ne o3 hg5 (by decide))); replace HB := HB.grown hgr (by have := HB.size; omega) (by intro k e; injection e with e; omega); replace hg5 := hgn; replace hcg1 := hg1.cell; replace hfg1 := hg1.frozen; replace hcg2 := hg2.cell; replace hfg2 := hg2.frozen; replace hcg5 := hg5.cell; replace hfg5 := hg5.frozen; clear hgn hgr))
  have hc1 := hg1.later
  have hc2 := hg2.later
  have ha4 := ha.next HB
  have hb4 := hb.next HB
  clear hcg1 hfg1 hcg2 hfg2 hcg5 hfg5
  simp only [Act.put, List.setIfInBounds_toArray, List.set_cons_succ, List.set_cons_zero]
  refine wp_region_later (by kernel_rfl) (by kernel_rfl) ?_
  repeat (go_big_quiet_step (first
    | (go_at_call 17; exact calls_later (refSame_calls _ _ _ _ _ _ _ (ha4.later _) (hb4.later _) hla hlb))
    | (go_at_call 16; exact calls_later (same_calls _ _ _ _ _ _ _ (by first | exact ha4.later _ | exact hb4.later _) (by first | exact ha4.later _ | exact hb4.later _)))))
  refine later_end (fun W6 hb6 => ?_)
  replace hg1 := hg1.next hb6
  replace hg2 := hg2.next hb6
  replace hg5 := hg5.next hb6
  replace o3 := own_next o3 hb6
  replace HB := below_go HB hb6
  clear hc1 hc2 ha4 hb4
  go_wp2_with (first
    | ((with_reducible refine gate_dst (N := 30) rfl ?_); refine wpList_load_row rfl _ _ rfl g1 rfl _ _ (0, 0) _ hg1 Try.underlying25 rfl rec_size ?_)
    | (go_at_call 18; (with_reducible refine (clone_calls a A c _ (ha.next HB) hla).mono ?_); rintro e W1 ⟨A6, c6, rfl, o6, hb⟩; have hgr := grown_of_below hb; have do3o6 := own_apart o3 o6 (Nat.le_refl _); replace o6 := own_mono o6 HB.size; replace hg1 := hg1.grown hgr (by simp); replace hg2 := hg2.grown hgr (by simp); replace hg5 := hg5.grown hgr (by simp); replace o3 := o3.kept hgr (by cases Value.ownBlock _ <;> simp); replace HB := HB.grown hgr (by have := HB.size; omega) (by simp); replace hcg1 := hg1.cell; replace hfg1 := hg1.frozen; replace hcg2 := hg2.cell; replace hfg2 := hg2.frozen; replace hcg5 := hg5.cell; replace hfg5 := hg5.frozen; clear hb hgr)
    | ((with_reducible refine gate_dst (N := 6) rfl ?_); refine ev_alloc rfl rfl _ rec_zero ?_; intro g6 W2 hg6 hsz hbn; have hgr := grown_of_below hbn; have ng1g6 : g1 ≠ g6 := (by have := hg1.lt; omega); have ng2g6 : g2 ≠ g6 := (by have := hg2.lt; omega); have ng5g6 : g5 ≠ g6 := (by have := hg5.lt; omega); replace hg6 : Blk W2 g6 _ (Rec.zero.cells none 0) := hg6; have zg6 : w.heap.size ≤ g6 := (by have := HB.size; omega); replace hg1 := hg1.grown hgr (by simp); replace hg2 := hg2.grown hgr (by simp); replace hg5 := hg5.grown hgr (by simp); replace o3 := o3.kept hgr (by cases Value.ownBlock _ <;> simp); replace o6 := o6.kept hgr (by cases Value.ownBlock _ <;> simp); replace HB := HB.grown hgr (by have := HB.size; omega) (by simp); have hcg6 := hg6.cell; have hfg6 := hg6.frozen; replace hcg1 := hg1.cell; replace hfg1 := hg1.frozen; replace hcg2 := hg2.cell; replace hfg2 := hg2.frozen; replace hcg5 := hg5.cell; replace hfg5 := hg5.frozen; clear hsz hbn hgr)
    | ((with_reducible refine gate_store (p := 6) rfl ?_); refine ev_store_row (cs := a.cells A6 c6) rfl rfl rfl hg6 rfl rfl rec_size rfl (cells_one _ _ _) ?_; intro W3 hgn hgr; replace hg1 := hg1.grown hgr (by intro e; injection e with e; omega); replace hg2 := hg2.grown hgr (by intro e; injection e with e; omega); replace hg5 := hg5.grown hgr (by intro e; injection e with e; omega); replace o3 := o3.kept hgr (.inr (own_blk_ne o3 hg6 (by decide))); replace o6 := o6.kept hgr (.inr (own_blk_ne o6 hg6 (by decide))); replace HB := HB.grown hgr (by have := HB.size; omega) (by intro k e; injection e with e; omega); replace hg6 := hgn; replace hcg1 := hg1.cell; replace hfg1 := hg1.frozen; replace hcg2 := hg2.cell; replace hfg2 := hg2.frozen; replace hcg5 := hg5.cell; replace hfg5 := hg5.frozen; replace hcg6 := hg6.cell; replace hfg6 := hg6.frozen; clear hgn hgr)
    | ((with_reducible refine gate_dst (N := 32) rfl ?_); refine wpList_load_row rfl _ _ rfl g6 rfl _ _ (0, 0) _ hg6 Try.underlying25 rfl rec_size ?_)
    | ((with_reducible refine gate_dst (N := 33) rfl ?_); refine wpList_load_row rfl _ _ rfl g1 rfl _ _ (0, 0) _ hg1 Try.underlying25 rfl rec_size ?_)
    | (go_at_call 17; (with_reducible refine (refSame_calls a a A6 A c6 c _ (own_rb o6) (ha.next HB) hla hla).mono ?_); rintro e W4 ⟨rfl, hb⟩; have hgr := grown_of_below hb; replace hg1 := hg1.grown hgr (by simp); replace hg2 := hg2.grown hgr (by simp); replace hg5 := hg5.grown hgr (by simp); replace hg6 := hg6.grown hgr (by simp); replace o3 := o3.kept hgr (by cases Value.ownBlock _ <;> simp); replace o6 := o6.kept hgr (by cases Value.ownBlock _ <;> simp); replace HB := HB.grown hgr (by have := HB.size; omega) (by simp); replace hcg1 := hg1.cell; replace hfg1 := hg1.frozen; replace hcg2 := hg2.cell; replace hfg2 := hg2.frozen; replace hcg5 := hg5.cell; replace hfg5 := hg5.frozen; replace hcg6 := hg6.cell; replace hfg6 := hg6.frozen; clear hb hgr))
  go_loopg [7] a.Data.length (fun n v7 wr => ∃ (k : Nat) (ns : List Int), n + k = a.Data.length ∧ v7 = .int .i64 k ∧ Aside (ns.length = a.Data.length ∧ Blk wr g1 _ (a.cells A c) ∧ Blk wr g5 _ (a.cells A3 c3) ∧ Blk wr g6 _ (a.cells A6 c6) ∧
    wr.ownsRow w.heap.size 5 1 (.slice A3 a.Data.length c3) a.Data.length (u8s a.Data) ∧ wr.ownsRow w.heap.size 5 1 (.slice A6 a.Data.length c6) a.Data.length (ns.map (Value.int .u8)) ∧ Below w.heap.size w wr))
  case atStart => exact ⟨0, a.Data.map (fun b => (b.toNat : Int)), by omega, rfl, ⟨by simp, hg1, hg5, hg6, o3, by simpa [u8s, Function.comp_def] using o6, HB⟩⟩
  case round =>
    clear hg1 hg2 hg5 hg6 o3 o6 HB hcg1 hcg2 hcg5 hcg6 hfg1 hfg2 hfg5 hfg6
    obtain ⟨k, ns, hn, rfl, HA⟩ := hrel
    obtain ⟨hnl, hg1, hg5, hg6, o3, o6, HB⟩ := HA.out
    clear HA
    by_cases hlt : k < a.Data.length
    · obtain ⟨g, rfl, hge⟩ := own_at o6 (by omega)
      have hck : wr.cell? ⟨g, k, none⟩ = some (.int .u8 (ns.getD k 0)) := by
        rcases own_cell (k := k) o6 with h | h
        · rw [h]; simp [show k < ns.length by omega]
        · omega
      have hfk := own_frozen o6 k
      have hcg6 := hg6.cell
      go_wp2
      go_still_tail 10, (by kernel_rfl)
      refine wpList_drew (fun wd hbd => ?_)
      replace hg1 := hg1.next hbd
      replace hg5 := hg5.next hbd
      replace hg6 := hg6.next hbd
      replace o3 := own_next o3 hbd
      replace o6 := own_next o6 hbd
      replace HB := below_go HB hbd
      go_wp2_with (first
        | ((with_reducible refine gate_store (p := 52) rfl ?_); refine ev_store_own rfl rfl rfl o6 (k := k) (by omega) rfl rfl rfl (by kernel_rfl) ?_; intro W1 on hgr; replace hg1 := hg1.grown hgr (fun e => own_blk_ne o6 hg1 (by decide) e.symm); replace hg5 := hg5.grown hgr (fun e => own_blk_ne o6 hg5 (by decide) e.symm); replace hg6 := hg6.grown hgr (fun e => own_blk_ne o6 hg6 (by decide) e.symm); replace o3 := o3.kept hgr do3o6; replace HB := HB.grown hgr (by have := HB.size; omega) (own_base o6); replace o6 := on; replace hcg1 := hg1.cell; replace hfg1 := hg1.frozen; replace hcg5 := hg5.cell; replace hfg5 := hg5.frozen; replace hcg6 := hg6.cell; replace hfg6 := hg6.frozen; clear on hgr))
      go_roundg (gk - 1)
      case measure => omega
      case rel => exact ⟨k + 1, ns.set k _, by omega, by go_num, ⟨by simp [hnl], hg1, hg5, hg6, o3, by rw [List.map_set]; exact o6, HB⟩⟩
    · have hcg6 := hg6.cell
      go_wp2_with (first
        | ((with_reducible refine gate_dst (N := 53) rfl ?_); refine wpList_load_row rfl _ _ rfl g1 rfl _ _ (0, 0) _ hg1 Try.underlying25 rfl rec_size ?_)
        | (go_at_call 18; (with_reducible refine (clone_calls a A c _ (ha.next HB) hla).mono ?_); rintro e W1 ⟨A8, c8, rfl, o8, hb⟩; have hgr := grown_of_below hb; have do3o8 := own_apart o3 o8 (Nat.le_refl _); replace o8 := own_mono o8 HB.size; replace hg1 := hg1.grown hgr (by simp); replace hg5 := hg5.grown hgr (by simp); replace hg6 := hg6.grown hgr (by simp); replace o3 := o3.kept hgr (by cases Value.ownBlock _ <;> simp); replace HB := HB.grown hgr (by have := HB.size; omega) (by simp); replace hcg1 := hg1.cell; replace hfg1 := hg1.frozen; replace hcg5 := hg5.cell; replace hfg5 := hg5.frozen; replace hcg6 := hg6.cell; replace hfg6 := hg6.frozen; clear hb hgr)
        | ((with_reducible refine gate_dst (N := 8) rfl ?_); refine ev_alloc rfl rfl _ rec_zero ?_; intro g8 W2 hg8 hsz hbn; have hgr := grown_of_below hbn; have ng1g8 : g1 ≠ g8 := (by have := hg1.lt; omega); have ng5g8 : g5 ≠ g8 := (by have := hg5.lt; omega); have ng6g8 : g6 ≠ g8 := (by have := hg6.lt; omega); replace hg8 : Blk W2 g8 _ (Rec.zero.cells none 0) := hg8; have zg8 : w.heap.size ≤ g8 := (by have := HB.size; omega); replace hg1 := hg1.grown hgr (by simp); replace hg5 := hg5.grown hgr (by simp); replace hg6 := hg6.grown hgr (by simp); replace o3 := o3.kept hgr (by cases Value.ownBlock _ <;> simp); replace o8 := o8.kept hgr (by cases Value.ownBlock _ <;> simp); replace HB := HB.grown hgr (by have := HB.size; omega) (by simp); have hcg8 := hg8.cell; have hfg8 := hg8.frozen; replace hcg1 := hg1.cell; replace hfg1 := hg1.frozen; replace hcg5 := hg5.cell; replace hfg5 := hg5.frozen; replace hcg6 := hg6.cell; replace hfg6 := hg6.frozen; clear hsz hbn hgr)
        | ((with_reducible refine gate_store (p := 8) rfl ?_); refine ev_store_row (cs := a.cells A8 c8) rfl rfl rfl hg8 rfl rfl rec_size rfl (cells_one _ _ _) ?_; intro W3 hgn hgr; replace hg1 := hg1.grown hgr (by intro e; injection e with e; omega); replace hg5 := hg5.grown hgr (by intro e; injection e with e; omega); replace hg6 := hg6.grown hgr (by intro e; injection e with e; omega); replace o3 := o3.kept hgr (.inr (own_blk_ne o3 hg8 (by decide))); replace o8 := o8.kept hgr (.inr (own_blk_ne o8 hg8 (by decide))); replace HB := HB.grown hgr (by have := HB.size; omega) (by intro k e; injection e with e; omega); replace hg8 := hgn; replace hcg1 := hg1.cell; replace hfg1 := hg1.frozen; replace hcg5 := hg5.cell; replace hfg5 := hg5.frozen; replace hcg6 := hg6.cell; replace hfg6 := hg6.frozen; replace hcg8 := hg8.cell; replace hfg8 := hg8.frozen; clear hgn hgr)
        | ((with_reducible refine gate_dst (N := 55) rfl ?_); refine wpList_load_row rfl _ _ rfl g1 rfl _ _ (0, 0) _ hg1 Try.underlying25 rfl rec_size ?_)
        | ((with_reducible refine gate_dst (N := 56) rfl ?_); refine wpList_load_row rfl _ _ rfl g5 rfl _ _ (0, 0) _ hg5 Try.underlying25 rfl rec_size ?_)
        | ((with_reducible refine gate_dst (N := 59) rfl ?_); refine wpList_load_row rfl _ _ rfl g8 rfl _ _ (0, 0) _ hg8 Try.underlying25 rfl rec_size ?_)
        | ((with_reducible refine gate_dst (N := 60) rfl ?_); refine wpList_load_row rfl _ _ rfl g5 rfl _ _ (0, 0) _ hg5 Try.underlying25 rfl rec_size ?_)
        | (go_at_call 17; (with_reducible refine (refSame_calls a a A A3 c c3 _ (ha.next HB) (own_rb o3) hla hla).mono ?_); rintro e W4 ⟨rfl, hb⟩; have hgr := grown_of_below hb; replace hg1 := hg1.grown hgr (by simp); replace hg5 := hg5.grown hgr (by simp); replace hg6 := hg6.grown hgr (by simp); replace hg8 := hg8.grown hgr (by simp); replace o3 := o3.kept hgr (by cases Value.ownBlock _ <;> simp); replace o8 := o8.kept hgr (by cases Value.ownBlock _ <;> simp); replace HB := HB.grown hgr (by have := HB.size; omega) (by simp); replace hcg1 := hg1.cell; replace hfg1 := hg1.frozen; replace hcg5 := hg5.cell; replace hfg5 := hg5.frozen; replace hcg6 := hg6.cell; replace hfg6 := hg6.frozen; replace hcg8 := hg8.cell; replace hfg8 := hg8.frozen; clear hb hgr)
        | (go_at_call 17; (with_reducible refine (refSame_calls a a A8 A3 c8 c3 _ (own_rb o8) (own_rb o3) hla hla).mono ?_); rintro e W5 ⟨rfl, hb⟩; have hgr := grown_of_below hb; replace hg1 := hg1.grown hgr (by simp); replace hg5 := hg5.grown hgr (by simp); replace hg6 := hg6.grown hgr (by simp); replace hg8 := hg8.grown hgr (by simp); replace o3 := o3.kept hgr (by cases Value.ownBlock _ <;> simp); replace o8 := o8.kept hgr (by cases Value.ownBlock _ <;> simp); replace HB := HB.grown hgr (by have := HB.size; omega) (by simp); replace hcg1 := hg1.cell; replace hfg1 := hg1.frozen; replace hcg5 := hg5.cell; replace hfg5 := hg5.frozen; replace hcg6 := hg6.cell; replace hfg6 := hg6.frozen; replace hcg8 := hg8.cell; replace hfg8 := hg8.frozen; clear hb hgr))
      go_ret
      exact ⟨rfl, HB⟩
end Go.Proofs.Ytjhiohjpkdjkoaa
