/-
  The walks of annalslaw3.equal, empty, copied, where they are asked.
-/
import Derived.Test.YtjhiohjpkdjkoaaDoorV0
import Derived.Test.YtjhiohjpkdjkoaaDoorW5s
set_option linter.unusedVariables false
set_option linter.unusedSimpArgs false
namespace Go.Proofs.YtjhiohjpkdjkoaaDoor
open Go.RowKit
attribute [local go_sem] Rec.size_ Rec.g0 Rec.g1 Rec.g2 Rec.g3 Rec.g4 Rec.g5 Rec.g6 Rec.g7 Rec.g8 Rec.g9 Rec.g10 Rec.g11 Rec.fold Rec.same_self

theorem alike_same (l : List UInt8) (A B : Option Addr) (c d : Nat) (w : World) (ha : RB w A l) (hb : RB w B l) (hl : l.length ≤ 140737488351232) :
    Calls Tryd.prog 83 #[.slice A l.length c, .slice B l.length d] w fun e w' => e = .returned (.bool true) ∧ Below w.heap.size w w' := by
  have := alike_calls l l A B c d w ha hb hl hl
  simpa using this
set_option maxHeartbeats 4000000 in
set_option maxRecDepth 100000 in
/-- Two records that differ in their versions at most. -/
theorem equal_calls (a : Rec) (v : Int) (A B : Option Addr) (c d : Nat) (w : World) (ha : RB w A a.Data) (hb : RB w B a.Data) (hl : a.Data.length ≤ 140737488351232) :
    Calls Tryd.prog 54 #[.agg (a.cells A c), .agg (({ a with V := v } : Rec).cells B d)] w fun e w' => e = .returned (.bool true) ∧ Below w.heap.size w w' := by
  have HB := Below.refl w.heap.size w
  go_enter Tryd.func54, Tryd.ntmps54
  go_wp2_with (first
    | ((with_reducible refine gate_dst (N := 2) rfl ?_); refine ev_box rfl rfl (a.cells A c) rfl ?_; intro g2 W1 hg2 hsz hbn; have hgr := grown_of_below hbn; have zg2 : w.heap.size ≤ g2 := (by have := HB.size; omega); replace HB := HB.grown hgr (by have := HB.size; omega) (by simp); have hcg2 := hg2.cell; have hfg2 := hg2.frozen; clear hsz hbn hgr)
    | ((with_reducible refine gate_dst (N := 3) rfl ?_); refine ev_box rfl rfl (({ a with V := v } : Rec).cells B d) rfl ?_; intro g3 W2 hg3 hsz hbn; have hgr := grown_of_below hbn; have ng2g3 : g2 ≠ g3 := (by have := hg2.lt; omega); have zg3 : w.heap.size ≤ g3 := (by have := HB.size; omega); replace hg2 := hg2.grown hgr (by simp); replace HB := HB.grown hgr (by have := HB.size; omega) (by simp); have hcg3 := hg3.cell; have hfg3 := hg3.frozen; replace hcg2 := hg2.cell; replace hfg2 := hg2.frozen; clear hsz hbn hgr)
    | (go_at_call 83; (with_reducible refine (alike_same a.Data A B c d _ (ha.next HB) (hb.next HB) hl).mono ?_); rintro e W3 ⟨rfl, hb⟩; have hgr := grown_of_below hb; replace hg2 := hg2.grown hgr (by simp); replace hg3 := hg3.grown hgr (by simp); replace HB := HB.grown hgr (by have := HB.size; omega) (by simp); replace hcg2 := hg2.cell; replace hfg2 := hg2.frozen; replace hcg3 := hg3.cell; replace hfg3 := hg3.frozen; clear hb hgr))
  go_ret
  exact ⟨rfl, HB⟩
theorem equal_zero (A : Option Addr) (c : Nat) (w : World) : Calls Tryd.prog 54 #[.agg (Rec.zero.cells A c), .agg #[.int .i64 0, .int .i64 0, .int .i64 0, .int .i64 0, .int .i64 0, .int .i64 0, .int .i64 0, .int .i64 0, .int .i64 0, .int .i64 0, .string ⟨#[]⟩, .slice none 0 0]] w fun e w' => e = .returned (.bool true) ∧ Below w.heap.size w w' :=
  equal_calls Rec.zero 0 A none c 0 w RB.nil RB.nil (by decide)
set_option maxRecDepth 100000 in
theorem empty_calls (A : Option Addr) (c : Nat) (w : World) :
    Calls Tryd.prog 82 #[.agg (Rec.zero.cells A c)] w fun e w' => e = .returned (.bool true) ∧ Below w.heap.size w w' := by
  have HB := Below.refl w.heap.size w
  go_enter Tryd.func82, Tryd.ntmps82
  go_wp2_with (first
    | ((with_reducible refine gate_dst (N := 1) rfl ?_); refine ev_box rfl rfl (Rec.zero.cells A c) rfl ?_; intro g1 W1 hg1 hsz hbn; have hgr := grown_of_below hbn; have zg1 : w.heap.size ≤ g1 := (by have := HB.size; omega); replace HB := HB.grown hgr (by have := HB.size; omega) (by simp); have hcg1 := hg1.cell; have hfg1 := hg1.frozen; clear hsz hbn hgr)
    | ((with_reducible refine gate_dst (N := 7) rfl ?_); (first | (refine wpList_ungate ?_ ?_; focus (first | rfl | (simp [Region.wanted, yielded]; done))) | (refine wpList_ungate (by first | rfl | simp [Region.wanted, yielded]) ?_)); refine wpList_load_row rfl _ _ rfl g1 rfl _ _ (0, 0) _ hg1 Tryd.underlying35 rfl rec_size ?_)
    | (go_at_call 54; (with_reducible refine (equal_zero A c _).mono ?_); rintro e W2 ⟨rfl, hb⟩; have hgr := grown_of_below hb; replace hg1 := hg1.grown hgr (by simp); replace HB := HB.grown hgr (by have := HB.size; omega) (by simp); replace hcg1 := hg1.cell; replace hfg1 := hg1.frozen; clear hb hgr))
  go_ret
  exact ⟨rfl, HB⟩
set_option maxRecDepth 100000 in
theorem copied_calls (l : List UInt8) (A : Option Addr) (c : Nat) (hl : l.length ≤ 140737488351232) (w : World) (hd : RB w A l) :
    Calls Tryd.prog 39 #[.slice A l.length c] w fun e w' => ∃ A' c', e = .returned (.slice A' l.length c') ∧ w'.ownsRow w.heap.size 5 1 (.slice A' l.length c') l.length (u8s l) ∧ Below w.heap.size w w' := by
  have HB := Below.refl w.heap.size w
  go_enter Tryd.func39, Tryd.ntmps39
  go_wp2_with (first
    | ((with_reducible refine gate_dst (N := 6) rfl ?_); refine ev_append_nil rfl rfl Tryd.underlying33 info_u8 rfl (by omega) rfl rfl hd u8s_one (by omega) (by omega) ?_; intro A3 c3 W1 o3 hbn; have hgr := grown_of_below hbn; replace o3 := own_mono o3 HB.size; replace HB := HB.grown hgr (by have := HB.size; omega) (by simp); clear hbn hgr))
  go_ret
  exact ⟨A3, c3, rfl, o3, HB⟩
/-- What is owned has room. -/
theorem own_room {w : World} {base n c size : Nat} {A : Option Addr} {e : TypeId} {xs : List Value} (h : w.ownsRow base e size (.slice A n c) n xs) : n ≤ c := by
  rcases h.2 with ⟨hv, h0⟩ | ⟨g', cap, cur, hv, _, _, h1, h2, _⟩
  · omega
  · injection hv with _ _ hc
    omega
end Go.Proofs.YtjhiohjpkdjkoaaDoor
