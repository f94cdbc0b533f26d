/-
  The walks of record.number, record.Same, record.Clone and of the reference's number, Part, Alike, Same, Clone.
-/
import Derived.Test.YtikodgaomhmbmaaDoorK
set_option linter.unusedVariables false
set_option linter.unusedSimpArgs false
namespace Go.Proofs.YtikodgaomhmbmaaDoor
open Go.RowKit
attribute [local go_sem] Rec.size_ Rec.g0 Rec.g1 Rec.g2 Rec.g3 Rec.g4 Rec.g5 Rec.g6 Rec.g7 Rec.g8 Rec.g9 Rec.g10 Rec.g11

/-- record.number: the address of the field of a tag from 1 to 9. -/
theorem number_calls (g k : Nat) (h1 : 1 ≤ k) (h9 : k ≤ 9) (w : World) :
    Calls Tryd.prog 60 #[.pointer (some ⟨g, 0, none⟩), .int .i64 k] w fun e w' => e = .returned (.pointer (some ⟨g, k, none⟩)) ∧ w = w' := by
  obtain rfl | rfl | rfl | rfl | rfl | rfl | rfl | rfl | rfl : k = 1 ∨ k = 2 ∨ k = 3 ∨ k = 4 ∨ k = 5 ∨ k = 6 ∨ k = 7 ∨ k = 8 ∨ k = 9 := by omega
  all_goals
    go_enter Tryd.func60, Tryd.ntmps60
    go_wp2
    go_ret
    exact ⟨rfl, rfl⟩

theorem number_later {w : World} (g k : Nat) (h1 : 1 ≤ k) (h9 : k ≤ 9) (u : Later w) :
    Calls Tryd.prog 60 #[.pointer (some ⟨g, 0, none⟩), .int .i64 k] u.1 fun e w' => e = .returned (.pointer (some ⟨g, k, none⟩)) ∧ ∃ u' : Later w, w' = u'.1 :=
  calls_later ((number_calls g k h1 h9 _).mono fun _ _ ⟨he, hw⟩ => ⟨he, hw ▸ Below.refl _ _⟩)

/-- The number under a tag. -/
def Rec.num (r : Rec) : Nat → Int
  | 1 => r.Kind
  | 2 => r.Saga
  | 3 => r.Step
  | 4 => r.Try
  | 5 => r.At
  | 6 => r.Last
  | 7 => r.Code
  | 8 => r.Count
  | 9 => r.Pivot
  | _ => 0
theorem Rec.num_get (r : Rec) (A : Option Addr) (c : Nat) (k : Nat) (h1 : 1 ≤ k) (h9 : k ≤ 9) : (r.cells A c)[k]? = some (.int .i64 (r.num k)) := by
  obtain rfl | rfl | rfl | rfl | rfl | rfl | rfl | rfl | rfl : k = 1 ∨ k = 2 ∨ k = 3 ∨ k = 4 ∨ k = 5 ∨ k = 6 ∨ k = 7 ∨ k = 8 ∨ k = 9 := by omega
  all_goals rfl

/-- annalsref3.number. -/
theorem refNumber_calls (r : Rec) (A : Option Addr) (c k : Nat) (h1 : 1 ≤ k) (h9 : k ≤ 9) (w : World) :
    Calls Tryd.prog 67 #[.agg (r.cells A c), .int .i64 k] w fun e w' => e = .returned (.int .i64 (r.num k)) ∧ Below w.heap.size w w' := by
  have HB := Below.refl w.heap.size w
  have hk : #[Value.int .i64 0, .int .i64 r.Kind, .int .i64 r.Saga, .int .i64 r.Step, .int .i64 r.Try, .int .i64 r.At, .int .i64 r.Last, .int .i64 r.Code, .int .i64 r.Count, .int .i64 r.Pivot][k]? = some (.int .i64 (r.num k)) := by
    obtain rfl | rfl | rfl | rfl | rfl | rfl | rfl | rfl | rfl : k = 1 ∨ k = 2 ∨ k = 3 ∨ k = 4 ∨ k = 5 ∨ k = 6 ∨ k = 7 ∨ k = 8 ∨ k = 9 := by omega
    all_goals rfl
  have Hk := Lib.hid hk
  clear hk
  go_enter Tryd.func67, Tryd.ntmps67
  go_wp2_with (first
    | ((with_reducible refine gate_dst (N := 2) rfl ?_); refine ev_box rfl rfl (r.cells A c) rfl ?_; intro g1 W1 hg1 hsz hbn; have hgr := grown_of_below hbn; have zg1 : w.heap.size ≤ g1 := (by have := HB.size; omega); replace HB := HB.grown hgr (by have := HB.size; omega) (by simp); have hcg1 := hg1.cell; have hfg1 := hg1.frozen; clear hsz hbn hgr)
    | ((with_reducible refine gate_dst (N := 5) rfl ?_); refine ev_alloc rfl rfl _ arr_zero ?_; intro g2 W2 hg2 hsz hbn; have hgr := grown_of_below hbn; have ng1g2 : g1 ≠ g2 := (by have := hg1.lt; omega); replace hg2 : Blk W2 g2 _ (#[.int .i64 0, .int .i64 0, .int .i64 0, .int .i64 0, .int .i64 0, .int .i64 0, .int .i64 0, .int .i64 0, .int .i64 0, .int .i64 0]) := hg2; have zg2 : w.heap.size ≤ g2 := (by have := HB.size; omega); replace hg1 := hg1.grown hgr (by simp); replace HB := HB.grown hgr (by have := HB.size; omega) (by simp); have hcg2 := hg2.cell; have hfg2 := hg2.frozen; replace hcg1 := hg1.cell; replace hfg1 := hg1.frozen; clear hsz hbn hgr)
    | ((with_reducible refine gate_store (p := 5) rfl ?_); refine ev_store_row (cs := #[.int .i64 0, .int .i64 r.Kind, .int .i64 r.Saga, .int .i64 r.Step, .int .i64 r.Try, .int .i64 r.At, .int .i64 r.Last, .int .i64 r.Code, .int .i64 r.Count, .int .i64 r.Pivot]) rfl rfl rfl hg2 rfl rfl arr_size rfl (by simp [Value.oneCell']) ?_; intro W3 hgn hgr; replace hg1 := hg1.grown hgr (by intro e; injection e with e; omega); replace HB := HB.grown hgr (by have := HB.size; omega) (by intro k e; injection e with e; omega); replace hg2 := hgn; replace hcg1 := hg1.cell; replace hfg1 := hg1.frozen; replace hcg2 := hg2.cell; replace hfg2 := hg2.frozen; clear hgn hgr; have hk2 := (hcg2 k).trans Hk.out; clear hcg2 hcg1 hfg1 hfg2))
  go_ret
  exact ⟨rfl, HB⟩
/-- The same record. -/
noncomputable def Rec.same (a b : Rec) : Bool := @decide (a = b) (Classical.propDecidable _)
theorem Rec.same_self (a : Rec) : a.same a = true := by simp [Rec.same]
theorem Rec.same_true {a b : Rec} (h : a = b) : a.same b = true := by subst h; exact Rec.same_self a
theorem Rec.same_false {a b : Rec} (h : a ≠ b) : a.same b = false := by simp [Rec.same, h]
theorem Rec.same_iff {a b : Rec} : a.same b = true ↔ a = b := by simp [Rec.same]
theorem Rec.eq_of_nums {a b : Rec} (hv : a.V = b.V) (hn : ∀ k, 1 ≤ k → k ≤ 9 → a.num k = b.num k) (hm : a.Name = b.Name) (hd : a.Data = b.Data) : a = b := by
  have h1 := hn 1 (by omega) (by omega)
  have h2 := hn 2 (by omega) (by omega)
  have h3 := hn 3 (by omega) (by omega)
  have h4 := hn 4 (by omega) (by omega)
  have h5 := hn 5 (by omega) (by omega)
  have h6 := hn 6 (by omega) (by omega)
  have h7 := hn 7 (by omega) (by omega)
  have h8 := hn 8 (by omega) (by omega)
  have h9 := hn 9 (by omega) (by omega)
  cases a
  cases b
  simp only [Rec.num] at *
  simp_all

theorem name_ne {s t : ByteArray} (h : s ≠ t) : (s.toList == t.toList) = false := by
  rw [beq_eq_false_iff_ne]
  intro e
  rw [ByteArray.toList_eq, ByteArray.toList_eq] at e
  cases s
  cases t
  simp at e
  exact h (by rw [e])

/-- Bytes to a string. -/
theorem conv_bytes {W : World} {A : Option Addr} {l : List UInt8} (h : RB W A l) (c : Nat) : (convert 25 9 (.slice A l.length c)).run Tryd.prog W = .ok (.string ⟨l.toArray⟩) W := by
  rw [run_convert_bytes_string W 25 9 5 A l.length c Tryd.underlying25 Tryd.underlying5 Tryd.underlying9]
  have he : ByteArray.empty = { data := #[] } := rfl
  by_cases h0 : l = []
  · subst h0
    rcases A with _ | ad
    · simp [Conv.bytesToString, he]
    · simp [Conv.bytesToString, loadCells, loadCellsFrom, he]
  · obtain ⟨ad, rfl, _, hc⟩ := h.2 (by cases l <;> simp_all)
    have hl : (loadCells ad (u8s l).length).run Tryd.prog W = .ok (u8s l).toArray W := run_loadCells_list W ad (u8s l) hc
    have hm : u8s l = (l.map fun b => (b.toNat : Int)).map (Value.int .u8) := by simp [u8s]
    rw [u8s_length, hm] at hl
    rw [run_bytesToString W _ _ _ _ hl, foldl_push_bytes]
    have hb : (l.map fun b => (b.toNat : Int)).map (fun n => UInt8.ofNat n.toNat) = l := by
      rw [List.map_map]
      conv => rhs; rw [← List.map_id l]
      exact List.map_congr_left fun b _ => by simp
    rw [hb]
    simp [he]

set_option maxHeartbeats 1000000 in
set_option maxRecDepth 100000 in
theorem same_calls (a b : Rec) (A B : Option Addr) (c d : Nat) (w : World) (ha : RB w A a.Data) (hb : RB w B b.Data) :
    Calls Tryd.prog 18 #[.agg (a.cells A c), .agg (b.cells B d)] w fun e w' => e = .returned (.bool (a.same b)) ∧ Below w.heap.size w w' := by
  have HB := Below.refl w.heap.size w
  by_cases hv : a.V = b.V
  · have hv1 := int_beq_true hv
    have hv2 := int_bne_false hv
    have Hv := Lib.hid hv
    clear hv
    by_cases hd : a.Data = b.Data
    · have hd1 : (a.Data == b.Data) = true := by simp [hd]
      have Hd := Lib.hid hd
      clear hd
      go_enter Tryd.func18, Tryd.ntmps18
      go_wp2_with (first
        | ((with_reducible refine gate_dst (N := 2) rfl ?_); refine ev_box rfl rfl (a.cells A c) rfl ?_; intro g1 W1 hg1 hsz hbn; have hgr := grown_of_below hbn; have zg1 : w.heap.size ≤ g1 := (by have := HB.size; omega); replace HB := HB.grown hgr (by have := HB.size; omega) (by simp); have hcg1 := hg1.cell; have hfg1 := hg1.frozen; clear hsz hbn hgr)
        | ((with_reducible refine gate_dst (N := 3) rfl ?_); refine ev_box rfl rfl (b.cells B d) rfl ?_; intro g2 W2 hg2 hsz hbn; have hgr := grown_of_below hbn; have ng1g2 : g1 ≠ g2 := (by have := hg1.lt; omega); have zg2 : w.heap.size ≤ g2 := (by have := HB.size; omega); replace hg1 := hg1.grown hgr (by simp); replace HB := HB.grown hgr (by have := HB.size; omega) (by simp); have hcg2 := hg2.cell; have hfg2 := hg2.frozen; replace hcg1 := hg1.cell; replace hfg1 := hg1.frozen; clear hsz hbn hgr; have ca := conv_bytes ((ha.below HB).more HB.size) c; have cb := conv_bytes ((hb.below HB).more HB.size) d))
      go_loopg [5] 9 (fun n v5 wr => ∃ k : Nat, 1 ≤ k ∧ n + k = 10 ∧ v5 = .int .i64 k ∧ Aside ((∀ j, 1 ≤ j → j < k → a.num j = b.num j) ∧ Blk wr g1 _ (a.cells A c) ∧ Blk wr g2 _ (b.cells B d) ∧ Below w.heap.size w wr))
      case atStart => exact ⟨1, by omega, by omega, rfl, ⟨fun j h1 h2 => by omega, hg1, hg2, HB⟩⟩
      case round =>
        clear hcg1 hfg1 hcg2 hfg2 hg1 hg2 HB ca cb
        obtain ⟨k, hk1, hn, rfl, HA⟩ := hrel
        by_cases h9 : k ≤ 9
        · by_cases hx : a.num k = b.num k
          · have hx1 := int_beq_true hx
            have hx2 := int_bne_false hx
            have Hx := Lib.hid hx
            clear hx
            have hca : ∀ u : Later wr, u.1.cell? ⟨g1, k, none⟩ = some (.int .i64 (a.num k)) := fun u => (HA.out.2.1.later u k).trans (Rec.num_get a A c k hk1 h9)
            have hcb : ∀ u : Later wr, u.1.cell? ⟨g2, k, none⟩ = some (.int .i64 (b.num k)) := fun u => (HA.out.2.2.1.later u k).trans (Rec.num_get b B d k hk1 h9)
            go_wp2
            refine wp_region_later (by kernel_rfl) (by kernel_rfl) ?_
            repeat (go_big_quiet_step ((go_at_call 60; exact number_later _ k hk1 h9 _)))
            refine later_end (fun wq hbq => ?_)
            go_wp2
            go_roundg (gk - 1)
            case measure => omega
            case rel => exact ⟨k + 1, by omega, by omega, by go_num, ⟨fun j h1 h2 => by
              rcases Nat.lt_or_ge j k with hjk | hjk
              · exact HA.out.1 j h1 hjk
              · obtain rfl : j = k := by omega
                exact Hx.out, HA.out.2.1.next hbq, HA.out.2.2.1.next hbq, below_go HA.out.2.2.2 hbq⟩⟩
          · have hx1 := int_beq_false hx
            have hx2 := int_bne_true hx
            have Hx := Lib.hid hx
            clear hx
            have hca : ∀ u : Later wr, u.1.cell? ⟨g1, k, none⟩ = some (.int .i64 (a.num k)) := fun u => (HA.out.2.1.later u k).trans (Rec.num_get a A c k hk1 h9)
            have hcb : ∀ u : Later wr, u.1.cell? ⟨g2, k, none⟩ = some (.int .i64 (b.num k)) := fun u => (HA.out.2.2.1.later u k).trans (Rec.num_get b B d k hk1 h9)
            go_wp2
            refine wp_region_later (by kernel_rfl) (by kernel_rfl) ?_
            repeat (go_big_quiet_step ((go_at_call 60; exact number_later _ k hk1 h9 _)))
            refine later_end (fun wq hbq => ?_)
            go_wp2
            go_ret
            exact ⟨ret_bool (Rec.same_false (fun e => Hx.out (by rw [e]))).symm, below_go HA.out.2.2.2 hbq⟩
        · obtain rfl : k = 10 := by omega
          have hcg1 := HA.out.2.1.cell
          have hcg2 := HA.out.2.2.1.cell
          by_cases hm : a.Name = b.Name
          · have hm1 : (a.Name.toList == b.Name.toList) = true := by simp [hm]
            have Hm := Lib.hid hm
            clear hm
            go_wp2
            go_ret
            exact ⟨ret_bool (Rec.same_true (Rec.eq_of_nums Hv.out (fun j h1 h2 => HA.out.1 j h1 (by omega)) Hm.out Hd.out)).symm, HA.out.2.2.2⟩
          · have hm1 : (a.Name.toList == b.Name.toList) = false := name_ne hm
            have Hm := Lib.hid hm
            clear hm
            go_wp2
            go_ret
            exact ⟨ret_bool (Rec.same_false (fun e => Hm.out (by rw [e]))).symm, HA.out.2.2.2⟩
    · have hd1 : (a.Data == b.Data) = false := by simp [hd]
      have Hd := Lib.hid hd
      clear hd
      go_enter Tryd.func18, Tryd.ntmps18
      go_wp2_with (first
        | ((with_reducible refine gate_dst (N := 2) rfl ?_); refine ev_box rfl rfl (a.cells A c) rfl ?_; intro g1 W1 hg1 hsz hbn; have hgr := grown_of_below hbn; have zg1 : w.heap.size ≤ g1 := (by have := HB.size; omega); replace HB := HB.grown hgr (by have := HB.size; omega) (by simp); have hcg1 := hg1.cell; have hfg1 := hg1.frozen; clear hsz hbn hgr)
        | ((with_reducible refine gate_dst (N := 3) rfl ?_); refine ev_box rfl rfl (b.cells B d) rfl ?_; intro g2 W2 hg2 hsz hbn; have hgr := grown_of_below hbn; have ng1g2 : g1 ≠ g2 := (by have := hg1.lt; omega); have zg2 : w.heap.size ≤ g2 := (by have := HB.size; omega); replace hg1 := hg1.grown hgr (by simp); replace HB := HB.grown hgr (by have := HB.size; omega) (by simp); have hcg2 := hg2.cell; have hfg2 := hg2.frozen; replace hcg1 := hg1.cell; replace hfg1 := hg1.frozen; clear hsz hbn hgr; have ca := conv_bytes ((ha.below HB).more HB.size) c; have cb := conv_bytes ((hb.below HB).more HB.size) d))
      go_ret
      exact ⟨ret_bool (Rec.same_false (fun e => Hd.out (by rw [e]))).symm, HB⟩
  · have hv1 := int_beq_false hv
    have hv2 := int_bne_true hv
    have Hv := Lib.hid hv
    clear hv
    go_enter Tryd.func18, Tryd.ntmps18
    go_wp2_with (first
      | ((with_reducible refine gate_dst (N := 2) rfl ?_); refine ev_box rfl rfl (a.cells A c) rfl ?_; intro g1 W1 hg1 hsz hbn; have hgr := grown_of_below hbn; have zg1 : w.heap.size ≤ g1 := (by have := HB.size; omega); replace HB := HB.grown hgr (by have := HB.size; omega) (by simp); have hcg1 := hg1.cell; have hfg1 := hg1.frozen; clear hsz hbn hgr)
      | ((with_reducible refine gate_dst (N := 3) rfl ?_); refine ev_box rfl rfl (b.cells B d) rfl ?_; intro g2 W2 hg2 hsz hbn; have hgr := grown_of_below hbn; have ng1g2 : g1 ≠ g2 := (by have := hg1.lt; omega); have zg2 : w.heap.size ≤ g2 := (by have := HB.size; omega); replace hg1 := hg1.grown hgr (by simp); replace HB := HB.grown hgr (by have := HB.size; omega) (by simp); have hcg2 := hg2.cell; have hfg2 := hg2.frozen; replace hcg1 := hg1.cell; replace hfg1 := hg1.frozen; clear hsz hbn hgr))
    go_ret
    exact ⟨ret_bool (Rec.same_false (fun e => Hv.out (by rw [e]))).symm, HB⟩

end Go.Proofs.YtikodgaomhmbmaaDoor
