/-
  The walk of record.bounds.
-/
import Derived.Test.YtikodgaomhmbmaaDoorC1
set_option linter.unusedVariables false
set_option linter.unusedSimpArgs false
namespace Go.Proofs.YtikodgaomhmbmaaDoor
open Go.RowKit
attribute [local go_sem] Rec.size_ Rec.g0 Rec.g1 Rec.g2 Rec.g3 Rec.g4 Rec.g5 Rec.g6 Rec.g7 Rec.g8 Rec.g9 Rec.g10 Rec.g11

theorem within_later {w : World} (n lo hi : Int) (u : Later w) :
    Calls Tryd.prog 91 #[.int .i64 n, .int .i64 lo, .int .i64 hi] u.1 fun e w' => e = .returned (.int .i64 (withinE n lo hi)) ∧ ∃ u' : Later w, w' = u'.1 :=
  calls_later ((recWithin_calls n lo hi _).mono fun _ _ ⟨he, hw⟩ => ⟨he, hw ▸ Below.refl _ _⟩)
theorem eq_beq {x y : Int} {b : Bool} (h : (x == y) = b) : (x = y) = (b = true) := by rw [← h]; simp

set_option maxRecDepth 100000 in
theorem bound4_calls (r : Rec) (A : Option Addr) (c g : Nat) (w : World) (hg : Blk w g 27 (r.cells A c)) :
    Calls Tryd.prog 79 #[.pointer (some ⟨g, 0, none⟩), .int .i64 4] w fun e w' => e = .returned (.int .i64 (r.bound 4)) ∧ Below w.heap.size w w' := by
  have hcg := hg.cell
  have hfg := hg.frozen
  have key : ∀ o1 o2 : Bool, (r.V == 1) = o1 → (r.Kind == 1) = o2 → Calls Tryd.prog 79 #[.pointer (some ⟨g, 0, none⟩), .int .i64 4] w fun e w' => e = .returned (.int .i64 (r.bound 4)) ∧ Below w.heap.size w w' := by
    intro o1 o2 h1 h2
    cases o1 <;> cases o2
    all_goals
      go_enter Tryd.func79, Tryd.ntmps79
      go_wp2_with (first
        | (go_at_call 91; (with_reducible refine (recWithin_calls _ _ _ _).mono ?_); rintro e w1 ⟨rfl, rfl⟩))
      go_ret
      exact ⟨rfl, Below.refl _ _⟩
  exact key _ _ rfl rfl
set_option maxRecDepth 100000 in
theorem bound5_calls (r : Rec) (A : Option Addr) (c g : Nat) (w : World) (hg : Blk w g 27 (r.cells A c)) :
    Calls Tryd.prog 79 #[.pointer (some ⟨g, 0, none⟩), .int .i64 5] w fun e w' => e = .returned (.int .i64 (r.bound 5)) ∧ Below w.heap.size w w' := by
  have hcg := hg.cell
  have hfg := hg.frozen
  have key : ∀ o1 o2 : Bool, (r.V == 1) = o1 → (r.Kind == 1) = o2 → Calls Tryd.prog 79 #[.pointer (some ⟨g, 0, none⟩), .int .i64 5] w fun e w' => e = .returned (.int .i64 (r.bound 5)) ∧ Below w.heap.size w w' := by
    intro o1 o2 h1 h2
    cases o1 <;> cases o2
    all_goals
      go_enter Tryd.func79, Tryd.ntmps79
      go_wp2_with (first
        | (go_at_call 91; (with_reducible refine (recWithin_calls _ _ _ _).mono ?_); rintro e w1 ⟨rfl, rfl⟩))
      go_ret
      exact ⟨rfl, Below.refl _ _⟩
  exact key _ _ rfl rfl
set_option maxRecDepth 100000 in
theorem bound6_calls (r : Rec) (A : Option Addr) (c g : Nat) (w : World) (hg : Blk w g 27 (r.cells A c)) :
    Calls Tryd.prog 79 #[.pointer (some ⟨g, 0, none⟩), .int .i64 6] w fun e w' => e = .returned (.int .i64 (r.bound 6)) ∧ Below w.heap.size w w' := by
  have hcg := hg.cell
  have hfg := hg.frozen
  have key : ∀ o1 o2 : Bool, (r.V == 1) = o1 → (r.Kind == 1) = o2 → Calls Tryd.prog 79 #[.pointer (some ⟨g, 0, none⟩), .int .i64 6] w fun e w' => e = .returned (.int .i64 (r.bound 6)) ∧ Below w.heap.size w w' := by
    intro o1 o2 h1 h2
    cases o1 <;> cases o2
    all_goals
      go_enter Tryd.func79, Tryd.ntmps79
      go_wp2_with (first
        | (go_at_call 91; (with_reducible refine (recWithin_calls _ _ _ _).mono ?_); rintro e w1 ⟨rfl, rfl⟩))
      go_ret
      exact ⟨rfl, Below.refl _ _⟩
  exact key _ _ rfl rfl
set_option maxRecDepth 100000 in
theorem bound8_calls (r : Rec) (A : Option Addr) (c g : Nat) (w : World) (hg : Blk w g 27 (r.cells A c)) :
    Calls Tryd.prog 79 #[.pointer (some ⟨g, 0, none⟩), .int .i64 8] w fun e w' => e = .returned (.int .i64 (r.bound 8)) ∧ Below w.heap.size w w' := by
  have hcg := hg.cell
  have hfg := hg.frozen
  have key : ∀ o1 o2 : Bool, (r.V == 1) = o1 → (r.Kind == 1) = o2 → Calls Tryd.prog 79 #[.pointer (some ⟨g, 0, none⟩), .int .i64 8] w fun e w' => e = .returned (.int .i64 (r.bound 8)) ∧ Below w.heap.size w w' := by
    intro o1 o2 h1 h2
    cases o1 <;> cases o2
    all_goals
      go_enter Tryd.func79, Tryd.ntmps79
      go_wp2_with (first
        | (go_at_call 91; (with_reducible refine (recWithin_calls _ _ _ _).mono ?_); rintro e w1 ⟨rfl, rfl⟩))
      go_ret
      exact ⟨rfl, Below.refl _ _⟩
  exact key _ _ rfl rfl

set_option maxRecDepth 100000 in
theorem bound3_calls (r : Rec) (A : Option Addr) (c g : Nat) (w : World) (hg : Blk w g 27 (r.cells A c)) :
    Calls Tryd.prog 79 #[.pointer (some ⟨g, 0, none⟩), .int .i64 3] w fun e w' => e = .returned (.int .i64 (r.bound 3)) ∧ Below w.heap.size w w' := by
  have hcg := hg.cell
  have hfg := hg.frozen
  have key : ∀ o1 o2 : Bool, (r.V == 1) = o1 → (r.Kind == 1) = o2 → Calls Tryd.prog 79 #[.pointer (some ⟨g, 0, none⟩), .int .i64 3] w fun e w' => e = .returned (.int .i64 (r.bound 3)) ∧ Below w.heap.size w w' := by
    intro o1 o2 h1 h2
    have e : r.bound 3 = if (o1 && o2) then withinE r.Step 1 32 else withinE r.Step 0 31 := by rw [← h1, ← h2]; rfl
    rw [e]
    clear e
    cases o1 <;> cases o2
    all_goals
      go_enter Tryd.func79, Tryd.ntmps79
      go_wp2_with (first
        | (go_at_call 91; (with_reducible refine (recWithin_calls _ _ _ _).mono ?_); rintro e w1 ⟨rfl, rfl⟩))
      go_ret
      exact ⟨rfl, Below.refl _ _⟩
  exact key _ _ rfl rfl

set_option maxRecDepth 100000 in
theorem bound7_calls (r : Rec) (A : Option Addr) (c g : Nat) (w : World) (hg : Blk w g 27 (r.cells A c)) :
    Calls Tryd.prog 79 #[.pointer (some ⟨g, 0, none⟩), .int .i64 7] w fun e w' => e = .returned (.int .i64 (r.bound 7)) ∧ Below w.heap.size w w' := by
  have hcg := hg.cell
  have hfg := hg.frozen
  have key : ∀ o1 o2 o3 : Bool, (r.V == 1) = o1 → (r.Kind == 1) = o2 → (r.Kind == 7) = o3 → Calls Tryd.prog 79 #[.pointer (some ⟨g, 0, none⟩), .int .i64 7] w fun e w' => e = .returned (.int .i64 (r.bound 7)) ∧ Below w.heap.size w w' := by
    intro o1 o2 o3 h1 h2 h3
    have e : r.bound 7 = if o3 then withinE r.Code 0 2 else 0 := by
      show (if r.Kind = 7 then withinE r.Code 0 2 else 0) = _
      rw [← h3]
      simp
    rw [e]
    clear e
    cases o1 <;> cases o2 <;> cases o3
    all_goals
      go_enter Tryd.func79, Tryd.ntmps79
      go_wp2_with (first
        | (go_at_call 91; (with_reducible refine (recWithin_calls _ _ _ _).mono ?_); rintro e w1 ⟨rfl, rfl⟩))
      go_ret
      exact ⟨rfl, Below.refl _ _⟩
  exact key _ _ _ rfl rfl rfl

set_option maxRecDepth 100000 in
theorem bound9_calls (r : Rec) (A : Option Addr) (c g : Nat) (w : World) (hg : Blk w g 27 (r.cells A c)) :
    Calls Tryd.prog 79 #[.pointer (some ⟨g, 0, none⟩), .int .i64 9] w fun e w' => e = .returned (.int .i64 (r.bound 9)) ∧ Below w.heap.size w w' := by
  have hcg := hg.cell
  have hfg := hg.frozen
  have hcl := hg.later
  have key : ∀ o1 o2 : Bool, (r.V == 1) = o1 → (r.Kind == 1) = o2 → Calls Tryd.prog 79 #[.pointer (some ⟨g, 0, none⟩), .int .i64 9] w fun e w' => e = .returned (.int .i64 (r.bound 9)) ∧ Below w.heap.size w w' := by
    intro o1 o2 h1 h2
    cases o1 <;> cases o2
    all_goals
      go_enter Tryd.func79, Tryd.ntmps79
      go_wp2
      refine wp_region_later (by kernel_rfl) (by kernel_rfl) ?_
      repeat (go_big_quiet_step ((go_at_call 91; exact within_later _ _ _ _)))
      refine later_end (fun wq hbq => ?_)
      go_wp2
      go_ret
      exact ⟨rfl, hbq⟩
  exact key _ _ rfl rfl

set_option maxRecDepth 100000 in
theorem bound10_calls (r : Rec) (A : Option Addr) (c g : Nat) (hs : r.Name.size ≤ 140737488351232) (w : World) (ht : Tabs w) (hg : Blk w g 27 (r.cells A c)) :
    Calls Tryd.prog 79 #[.pointer (some ⟨g, 0, none⟩), .int .i64 10] w fun e w' => e = .returned (.int .i64 (r.bound 10)) ∧ Below w.heap.size w w' := by
  have HB := Below.refl w.heap.size w
  have hcg := hg.cell
  have hfg := hg.frozen
  have key : ∀ o1 o2 : Bool, (r.V == 1) = o1 → (r.Kind == 1) = o2 → Calls Tryd.prog 79 #[.pointer (some ⟨g, 0, none⟩), .int .i64 10] w fun e w' => e = .returned (.int .i64 (r.bound 10)) ∧ Below w.heap.size w w' := by
    intro o1 o2 h1 h2
    have Ht := Lib.hid ht
    clear ht
    cases o1 <;> cases o2
    all_goals
      go_enter Tryd.func79, Tryd.ntmps79
      go_wp2_with (first
        | (go_at_call 92; (with_reducible refine (label_calls _ hs _ (Ht.out.next HB)).mono ?_); rintro e W1 ⟨rfl, hb⟩; have hgr := grown_of_below hb; replace hg := hg.grown hgr (by simp); replace HB := HB.grown hgr (by have := HB.size; omega) (by simp); replace hcg := hg.cell; replace hfg := hg.frozen; clear hb hgr))
      go_ret
      exact ⟨rfl, HB⟩
  exact key _ _ rfl rfl

set_option maxRecDepth 100000 in
theorem bound11_calls (r : Rec) (A : Option Addr) (c g : Nat) (w : World) (ht : Tabs w) (hd : RB w A r.Data) (hg : Blk w g 27 (r.cells A c)) :
    Calls Tryd.prog 79 #[.pointer (some ⟨g, 0, none⟩), .int .i64 11] w fun e w' => e = .returned (.int .i64 (r.bound 11)) ∧ Below w.heap.size w w' := by
  have HB := Below.refl w.heap.size w
  have hcg := hg.cell
  have hfg := hg.frozen
  have cv := conv_bytes hd c
  have key : ∀ o1 o2 : Bool, (r.V == 1) = o1 → (r.Kind == 1) = o2 → Calls Tryd.prog 79 #[.pointer (some ⟨g, 0, none⟩), .int .i64 11] w fun e w' => e = .returned (.int .i64 (r.bound 11)) ∧ Below w.heap.size w w' := by
    intro o1 o2 h1 h2
    have e : r.bound 11 = if 16384 < r.Data.length then 36 else if (o1 && o2) then labelE ⟨r.Data.toArray⟩ else 0 := by rw [← h1, ← h2]; rfl
    rw [e]
    clear e
    have Ht := Lib.hid ht
    clear ht
    by_cases hl : 16384 < r.Data.length
    · have t1 : decide (16384 < (r.Data.length : Int)) = true := by simp; omega
      rw [if_pos hl]
      clear hl
      cases o1 <;> cases o2
      all_goals
        go_enter Tryd.func79, Tryd.ntmps79
        go_wp2
        go_ret
        exact ⟨rfl, HB⟩
    · have t1 : decide (16384 < (r.Data.length : Int)) = false := by simp; omega
      have hz : (⟨r.Data.toArray⟩ : ByteArray).size ≤ 140737488351232 := by
        show r.Data.toArray.size ≤ _
        simp
        omega
      rw [if_neg hl]
      clear hl
      cases o1 <;> cases o2
      all_goals
        go_enter Tryd.func79, Tryd.ntmps79
        go_wp2_with (first
          | (go_at_call 92; (with_reducible refine (label_calls _ hz _ (Ht.out.next HB)).mono ?_); rintro e W1 ⟨rfl, hb⟩; have hgr := grown_of_below hb; replace hg := hg.grown hgr (by simp); replace HB := HB.grown hgr (by have := HB.size; omega) (by simp); replace hcg := hg.cell; replace hfg := hg.frozen; clear hb hgr))
        go_ret
        exact ⟨rfl, HB⟩
  exact key _ _ rfl rfl

theorem bounds_calls (r : Rec) (A : Option Addr) (c g t : Nat) (h3 : 3 ≤ t) (h11 : t ≤ 11) (hf : r.Fits) (w : World) (ht : Tabs w) (hd : RB w A r.Data) (hg : Blk w g 27 (r.cells A c)) :
    Calls Tryd.prog 79 #[.pointer (some ⟨g, 0, none⟩), .int .i64 t] w fun e w' => e = .returned (.int .i64 (r.bound t)) ∧ Below w.heap.size w w' := by
  obtain rfl | rfl | rfl | rfl | rfl | rfl | rfl | rfl | rfl : t = 3 ∨ t = 4 ∨ t = 5 ∨ t = 6 ∨ t = 7 ∨ t = 8 ∨ t = 9 ∨ t = 10 ∨ t = 11 := by omega
  · exact bound3_calls r A c g w hg
  · exact bound4_calls r A c g w hg
  · exact bound5_calls r A c g w hg
  · exact bound6_calls r A c g w hg
  · exact bound7_calls r A c g w hg
  · exact bound8_calls r A c g w hg
  · exact bound9_calls r A c g w hg
  · exact bound10_calls r A c g hf.name w ht hg
  · exact bound11_calls r A c g w ht hd hg
end Go.Proofs.YtikodgaomhmbmaaDoor
