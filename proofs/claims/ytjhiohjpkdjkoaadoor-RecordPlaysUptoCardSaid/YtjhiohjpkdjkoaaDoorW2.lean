/-
  record.Encode and record.Size of the record that annalslaw3.started asks.
-/
import Derived.Test.YtjhiohjpkdjkoaaDoorW1
set_option linter.unusedVariables false
set_option linter.unusedSimpArgs false
namespace Go.Proofs.YtjhiohjpkdjkoaaDoor
open Go.RowKit
attribute [local go_sem] Rec.size_ Rec.g0 Rec.g1 Rec.g2 Rec.g3 Rec.g4 Rec.g5 Rec.g6 Rec.g7 Rec.g8 Rec.g9 Rec.g10 Rec.g11 Rec.fold

theorem zero1_calls (r : Rec) (A : Option Addr) (c g : Nat) (w : World) (hg : Blk w g 35 (r.cells A c)) :
    Calls Tryd.prog 97 #[.pointer (some ⟨g, 0, none⟩), .int .i64 1] w fun e w' => e = .returned (.bool (r.num 1 == 0)) ∧ w = w' := by
  have hcg := hg.cell
  have hfg := hg.frozen
  have cn : ∀ w, Calls Tryd.prog 90 #[.pointer (some ⟨g, 0, none⟩), .int .i64 1] w fun e w' => e = .returned (.pointer (some ⟨g, 1, none⟩)) ∧ w = w' := fun w => number_calls g 1 (by omega) (by omega) w
  go_enter Tryd.func97, Tryd.ntmps97
  go_wp2_with (first
    | (go_at_call 90; (with_reducible refine (cn _).mono ?_); rintro e w1 ⟨rfl, rfl⟩))
  go_ret
  exact ⟨rfl, rfl⟩
theorem zero2_calls (r : Rec) (A : Option Addr) (c g : Nat) (w : World) (hg : Blk w g 35 (r.cells A c)) :
    Calls Tryd.prog 97 #[.pointer (some ⟨g, 0, none⟩), .int .i64 2] w fun e w' => e = .returned (.bool (r.num 2 == 0)) ∧ w = w' := by
  have hcg := hg.cell
  have hfg := hg.frozen
  have cn : ∀ w, Calls Tryd.prog 90 #[.pointer (some ⟨g, 0, none⟩), .int .i64 2] w fun e w' => e = .returned (.pointer (some ⟨g, 2, none⟩)) ∧ w = w' := fun w => number_calls g 2 (by omega) (by omega) w
  go_enter Tryd.func97, Tryd.ntmps97
  go_wp2_with (first
    | (go_at_call 90; (with_reducible refine (cn _).mono ?_); rintro e w1 ⟨rfl, rfl⟩))
  go_ret
  exact ⟨rfl, rfl⟩

/-- The record that 'started' writes and reads. -/
def endC : Rec := { Rec.zero with V := 1, Kind := 7, Saga := 1 }
theorem endC_chk : endC.chk = 0 := by decide +kernel
theorem endC_fits : endC.Fits := ⟨by decide, by decide⟩
theorem endC_zero (v : Int) (h3 : 3 ≤ v) (h11 : v ≤ 11) (g : Nat) (w : World) (hg : Blk w g 35 (endC.cells none 0)) :
    Calls Tryd.prog 97 #[.pointer (some ⟨g, 0, none⟩), .int .i64 v] w fun e w' => e = .returned (.bool true) ∧ w = w' := by
  obtain ⟨t, rfl⟩ : ∃ t : Nat, v = t := ⟨v.toNat, by omega⟩
  have hz : endC.zeroAt t = true := by
    obtain rfl | rfl | rfl | rfl | rfl | rfl | rfl | rfl | rfl : t = 3 ∨ t = 4 ∨ t = 5 ∨ t = 6 ∨ t = 7 ∨ t = 8 ∨ t = 9 ∨ t = 10 ∨ t = 11 := by omega
    all_goals rfl
  have := zero_calls endC none 0 g t (by omega) (by omega) w hg
  rwa [hz] at this
theorem endC_z1 (g : Nat) (w : World) (hg : Blk w g 35 (endC.cells none 0)) :
    Calls Tryd.prog 97 #[.pointer (some ⟨g, 0, none⟩), .int .i64 1] w fun e w' => e = .returned (.bool false) ∧ w = w' := zero1_calls endC none 0 g w hg
theorem endC_z2 (g : Nat) (w : World) (hg : Blk w g 35 (endC.cells none 0)) :
    Calls Tryd.prog 97 #[.pointer (some ⟨g, 0, none⟩), .int .i64 2] w fun e w' => e = .returned (.bool false) ∧ w = w' := zero2_calls endC none 0 g w hg
theorem endC_check (w : World) (ht : Tabs w) : Calls Tryd.prog 75 #[.agg (endC.cells none 0)] w fun e w' => e = .returned (.int .i64 0) ∧ Below w.heap.size w w' := by
  have := check_calls endC none 0 endC_fits w ht RB.nil
  rwa [endC_chk] at this
theorem num1_calls (g : Nat) (w : World) : Calls Tryd.prog 90 #[.pointer (some ⟨g, 0, none⟩), .int .i64 1] w fun e w' => e = .returned (.pointer (some ⟨g, 1, none⟩)) ∧ w = w' := number_calls g 1 (by omega) (by omega) w
theorem num2_calls (g : Nat) (w : World) : Calls Tryd.prog 90 #[.pointer (some ⟨g, 0, none⟩), .int .i64 2] w fun e w' => e = .returned (.pointer (some ⟨g, 2, none⟩)) ∧ w = w' := number_calls g 2 (by omega) (by omega) w
theorem endC_k (w : World) (g : Nat) (hg : Blk w g 35 (endC.cells none 0)) : w.cell? ⟨g, 1, none⟩ = some (.int .i64 7) ∧ w.cell? ⟨g, 2, none⟩ = some (.int .i64 1) := ⟨hg.cell 1, hg.cell 2⟩

/-- The bytes so far, ahead of tag v. -/
def endB (v : Int) : List Value := if v ≤ 1 then [] else if v ≤ 2 then [.int .u8 1, .int .u8 7] else [.int .u8 1, .int .u8 7, .int .u8 2, .int .u8 1]
theorem endB_len (v : Int) : (endB v).length ≤ 4 := by unfold endB; repeat' split
                                                       all_goals simp

set_option maxHeartbeats 4000000 in
set_option maxRecDepth 100000 in
theorem encode_end (w : World) (hT : Tabs w) :
    Calls Tryd.prog 76 #[.agg (endC.cells none 0)] w fun e w' => ∃ A c, e = .returned (.tuple #[.slice A 4 c, .int .i64 0]) ∧ w'.ownsRow w.heap.size 5 1 (.slice A 4 c) 4 [.int .u8 1, .int .u8 7, .int .u8 2, .int .u8 1] ∧ Below w.heap.size w w' := by
  have HB := Below.refl w.heap.size w
  have HT := Lib.hid hT
  clear hT
  go_enter Tryd.func76, Tryd.ntmps76
  go_wp2_with (first
    | ((with_reducible refine gate_dst (N := 1) rfl ?_); refine ev_box rfl rfl (endC.cells none 0) rfl ?_; intro g1 W1 hg1 hsz hbn; have hgr := grown_of_below hbn; have zg1 : w.heap.size ≤ g1 := (by have := HB.size; omega); replace HB := HB.grown hgr (by have := HB.size; omega) (by simp); have hcg1 := hg1.cell; have hfg1 := hg1.frozen; clear hsz hbn hgr)
    | ((with_reducible refine gate_dst (N := 7) rfl ?_); refine wpList_load_row rfl _ _ rfl g1 rfl _ _ (0, 0) _ hg1 Tryd.underlying35 rfl rec_size ?_)
    | (go_at_call 75; (with_reducible refine (endC_check _ (HT.out.next HB)).mono ?_); rintro e W2 ⟨rfl, hb⟩; have hgr := grown_of_below hb; replace hg1 := hg1.grown hgr (by simp); replace HB := HB.grown hgr (by have := HB.size; omega) (by simp); replace hcg1 := hg1.cell; replace hfg1 := hg1.frozen; clear hb hgr))
  go_loopg [5, 6] 11 (fun n v5 v6 wr => ∃ (v : Int) (A : Option Addr) (m c : Nat), (n : Int) + v = 12 ∧ v6 = .int .i64 v ∧ v5 = .slice A m c ∧ Aside (1 ≤ v ∧ m = (endB v).length ∧ Blk wr g1 _ (endC.cells none 0) ∧ wr.ownsRow w.heap.size 5 1 (.slice A m c) m (endB v) ∧ Below w.heap.size w wr))
  case atStart => exact ⟨1, none, 0, 0, by omega, rfl, rfl, ⟨by omega, rfl, hg1, own_nil _ _ _ _, HB⟩⟩
  case round =>
    clear hg1 hcg1 hfg1 HB
    obtain ⟨v, A5, m, c5, hn, rfl, rfl, HA⟩ := hrel
    obtain ⟨h1, hm, hg1, o1, HB⟩ := HA.out
    clear HA
    have hcg1 := hg1.cell
    have hfg1 := hg1.frozen
    obtain ⟨x1, x2⟩ := endC_k wr g1 hg1
    by_cases hv1 : v = 1
    · subst hv1
      obtain rfl : m = 0 := hm
      have oA : wr.ownsRow w.heap.size 5 1 (.slice A5 0 c5) 0 [] := o1
      clear o1 x2
      have m1 : True := trivial
      have hK : endC.Kind = 7 := rfl
      have hS : endC.Saga = 1 := rfl
      have hw7 : IntKind.u64.wrap 7 = 7 := by rfl
      have hw1 : IntKind.u64.wrap 1 = 1 := by rfl
      go_wp2_with (first
        | (go_at_call 97; (with_reducible refine (endC_z1 g1 _ hg1).mono ?_); rintro e w1 ⟨rfl, rfl⟩)
        | (go_at_call 103; clear m1; (with_reducible refine (uint_small 1 (by omega) (by omega) _).mono ?_); rintro e W1 ⟨A6, c6, rfl, o6, hb⟩; have hgr := grown_of_below hb; have doAo6 := own_apart oA o6 (Nat.le_refl _); replace o6 := own_mono o6 HB.size; replace hg1 := hg1.grown hgr (by simp); replace oA := oA.kept hgr (by cases Value.ownBlock _ <;> simp); replace HB := HB.grown hgr (by have := HB.size; omega) (by simp); replace hcg1 := hg1.cell; replace hfg1 := hg1.frozen; clear hb hgr; replace x1 := (endC_k _ g1 hg1).1)
        | ((with_reducible refine gate_dst (N := 22) rfl ?_); refine ev_append rfl rfl Tryd.underlying33 info_u8 rfl (by omega) rfl oA rfl (Reads.of_own o6) (fun u hu => by simp at hu; subst hu; rfl) (by omega) (by omega) (by have := HB.size; omega) ?_; intro A7 c7 W2 on hgr hat; replace hg1 := hg1.grown hgr (fun e => own_blk_ne oA hg1 (by decide) e.symm); replace HB := HB.grown hgr (by have := HB.size; omega) (own_base oA); replace oA := on; replace hcg1 := hg1.cell; replace hfg1 := hg1.frozen; clear on hgr hat)
        | (go_at_call 90; (with_reducible refine (num1_calls g1 _).mono ?_); rintro e w1 ⟨rfl, rfl⟩; have x3 := (endC_k _ g1 hg1).1)
        | (go_at_call 103; (with_reducible refine (uint_small 7 (by omega) (by omega) _).mono ?_); rintro e W3 ⟨A8, c8, rfl, o8, hb⟩; have hgr := grown_of_below hb; have doAo8 := own_apart oA o8 (Nat.le_refl _); replace o8 := own_mono o8 HB.size; replace hg1 := hg1.grown hgr (by simp); replace oA := oA.kept hgr (by cases Value.ownBlock _ <;> simp); replace HB := HB.grown hgr (by have := HB.size; omega) (by simp); replace hcg1 := hg1.cell; replace hfg1 := hg1.frozen; clear hb hgr)
        | ((with_reducible refine gate_dst (N := 31) rfl ?_); refine ev_append rfl rfl Tryd.underlying33 info_u8 rfl (by omega) rfl oA rfl (Reads.of_own o8) (fun u hu => by simp at hu; subst hu; rfl) (by omega) (by omega) (by have := HB.size; omega) ?_; intro A9 c9 W4 on hgr hat; replace hg1 := hg1.grown hgr (fun e => own_blk_ne oA hg1 (by decide) e.symm); replace HB := HB.grown hgr (by have := HB.size; omega) (own_base oA); replace oA := on; replace hcg1 := hg1.cell; replace hfg1 := hg1.frozen; clear on hgr hat))
      go_roundg (gk - 1)
      case measure => omega
      case rel => exact ⟨2, A9, 2, c9, by omega, rfl, rfl, ⟨by omega, rfl, hg1, oA, HB⟩⟩
    by_cases hv2 : v = 2
    · subst hv2
      obtain rfl : m = 2 := hm
      have oA : wr.ownsRow w.heap.size 5 1 (.slice A5 2 c5) 2 [.int .u8 1, .int .u8 7] := o1
      clear o1 x1 hv1
      have m1 : True := trivial
      have hK : endC.Kind = 7 := rfl
      have hS : endC.Saga = 1 := rfl
      have hw7 : IntKind.u64.wrap 7 = 7 := by rfl
      have hw1 : IntKind.u64.wrap 1 = 1 := by rfl
      go_wp2_with (first
        | (go_at_call 97; (with_reducible refine (endC_z2 g1 _ hg1).mono ?_); rintro e w1 ⟨rfl, rfl⟩)
        | (go_at_call 103; clear m1; (with_reducible refine (uint_small 2 (by omega) (by omega) _).mono ?_); rintro e W1 ⟨A6, c6, rfl, o6, hb⟩; have hgr := grown_of_below hb; have doAo6 := own_apart oA o6 (Nat.le_refl _); replace o6 := own_mono o6 HB.size; replace hg1 := hg1.grown hgr (by simp); replace oA := oA.kept hgr (by cases Value.ownBlock _ <;> simp); replace HB := HB.grown hgr (by have := HB.size; omega) (by simp); replace hcg1 := hg1.cell; replace hfg1 := hg1.frozen; clear hb hgr; replace x2 := (endC_k _ g1 hg1).2)
        | ((with_reducible refine gate_dst (N := 22) rfl ?_); refine ev_append rfl rfl Tryd.underlying33 info_u8 rfl (by omega) rfl oA rfl (Reads.of_own o6) (fun u hu => by simp at hu; subst hu; rfl) (by omega) (by omega) (by have := HB.size; omega) ?_; intro A7 c7 W2 on hgr hat; replace hg1 := hg1.grown hgr (fun e => own_blk_ne oA hg1 (by decide) e.symm); replace HB := HB.grown hgr (by have := HB.size; omega) (own_base oA); replace oA := on; replace hcg1 := hg1.cell; replace hfg1 := hg1.frozen; clear on hgr hat)
        | (go_at_call 90; (with_reducible refine (num2_calls g1 _).mono ?_); rintro e w1 ⟨rfl, rfl⟩; have x3 := (endC_k _ g1 hg1).2)
        | (go_at_call 103; (with_reducible refine (uint_small 1 (by omega) (by omega) _).mono ?_); rintro e W3 ⟨A8, c8, rfl, o8, hb⟩; have hgr := grown_of_below hb; have doAo8 := own_apart oA o8 (Nat.le_refl _); replace o8 := own_mono o8 HB.size; replace hg1 := hg1.grown hgr (by simp); replace oA := oA.kept hgr (by cases Value.ownBlock _ <;> simp); replace HB := HB.grown hgr (by have := HB.size; omega) (by simp); replace hcg1 := hg1.cell; replace hfg1 := hg1.frozen; clear hb hgr)
        | ((with_reducible refine gate_dst (N := 31) rfl ?_); refine ev_append rfl rfl Tryd.underlying33 info_u8 rfl (by omega) rfl oA rfl (Reads.of_own o8) (fun u hu => by simp at hu; subst hu; rfl) (by omega) (by omega) (by have := HB.size; omega) ?_; intro A9 c9 W4 on hgr hat; replace hg1 := hg1.grown hgr (fun e => own_blk_ne oA hg1 (by decide) e.symm); replace HB := HB.grown hgr (by have := HB.size; omega) (own_base oA); replace oA := on; replace hcg1 := hg1.cell; replace hfg1 := hg1.frozen; clear on hgr hat))
      go_roundg (gk - 1)
      case measure => omega
      case rel => exact ⟨3, A9, 4, c9, by omega, rfl, rfl, ⟨by omega, rfl, hg1, oA, HB⟩⟩
    have he : endB v = [.int .u8 1, .int .u8 7, .int .u8 2, .int .u8 1] := by unfold endB; rw [if_neg (by omega), if_neg (by omega)]
    rw [he] at hm o1
    obtain rfl : m = 4 := hm
    clear x1 x2
    by_cases hle : v ≤ 11
    · have t1 : decide (v ≤ 11) = true := by simp [hle]
      go_wp2_with (first
        | (go_at_call 97; (with_reducible refine (endC_zero v (by omega) hle g1 _ hg1).mono ?_); rintro e w1 ⟨rfl, rfl⟩))
      go_roundg (gk - 1)
      case measure => omega
      case rel => exact ⟨v + 1, A5, 4, c5, by omega, by go_num, rfl, ⟨by omega, by unfold endB; rw [if_neg (by omega), if_neg (by omega)]; rfl, hg1, by unfold endB; rw [if_neg (by omega), if_neg (by omega)]; exact o1, HB⟩⟩
    · have t1 : decide (v ≤ 11) = false := by simp; omega
      go_wp2
      go_ret2
      exact ⟨A5, c5, rfl, o1, HB⟩

set_option maxRecDepth 100000 in
theorem size_end (w : World) (hT : Tabs w) :
    Calls Tryd.prog 77 #[.agg (endC.cells none 0)] w fun e w' => e = .returned (.tuple #[.int .i64 4, .int .i64 0]) ∧ Below w.heap.size w w' := by
  have HB := Below.refl w.heap.size w
  have HT := Lib.hid hT
  clear hT
  go_enter Tryd.func77, Tryd.ntmps77
  go_wp2_with (first
    | ((with_reducible refine gate_dst (N := 1) rfl ?_); refine ev_box rfl rfl (endC.cells none 0) rfl ?_; intro g1 W1 hg1 hsz hbn; have hgr := grown_of_below hbn; have zg1 : w.heap.size ≤ g1 := (by have := HB.size; omega); replace HB := HB.grown hgr (by have := HB.size; omega) (by simp); have hcg1 := hg1.cell; have hfg1 := hg1.frozen; clear hsz hbn hgr)
    | ((with_reducible refine gate_dst (N := 7) rfl ?_); refine wpList_load_row rfl _ _ rfl g1 rfl _ _ (0, 0) _ hg1 Tryd.underlying35 rfl rec_size ?_)
    | (go_at_call 76; (with_reducible refine (encode_end _ (HT.out.next HB)).mono ?_); rintro e W2 ⟨A5, c5, rfl, o5, hb⟩; have hgr := grown_of_below hb; replace hg1 := hg1.grown hgr (by simp); replace HB := HB.grown hgr (by have := HB.size; omega) (by simp); replace hcg1 := hg1.cell; replace hfg1 := hg1.frozen; clear hb hgr))
  go_ret2
  exact ⟨rfl, HB⟩
end Go.Proofs.YtjhiohjpkdjkoaaDoor
