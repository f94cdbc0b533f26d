/-
  The walk of lift.plain.
-/
import Derived.Test.YtjhiohjpkdjkoaaDoorD1
set_option linter.unusedVariables false
set_option linter.unusedSimpArgs false
namespace Go.Proofs.YtjhiohjpkdjkoaaDoor
open Go.RowKit
attribute [local go_sem] Rec.size_ Rec.g0 Rec.g1 Rec.g2 Rec.g3 Rec.g4 Rec.g5 Rec.g6 Rec.g7 Rec.g8 Rec.g9 Rec.g10 Rec.g11 Rec.fold

theorem take_at {P : Program} {ops : Array Oper} {Q : Exit → Act → World → Prop} {S : World → Prop} {i : Nat} {oi : Oper} {v : Value} {fuel : Nat} {listed : Array Bool} {a : Act} {w : World} (N : Tmp) (hi : ops[i]? = some oi) (hN : oi.dst = some N)
    (hs : Region.noSelect ops = true) (hf : Region.free .any ops listed i = true) (hr : (Region.ready .any ops listed).contains i = true)
    (hQ : ∀ c a w, Q (.panic c) (a.put oi.dst v) w → Q (.panic c) a w) (hy : YieldsIf P ops S oi v a) (hS : S w)
    (h : wpAnyH P .any ops Q S fuel (listed.setIfInBounds i true) (a.put (some N) v) w) : wpAnyH P .any ops Q S (fuel + 1) listed a w :=
  wpAnyH_take hi hs hf hr hQ hy hS (by rw [hN]; exact h)
/-- What a load of a whole row yields, in every world that holds it. -/
theorem yields_row {P : Program} {ops : Array Oper} {S : World → Prop} {o : Oper} {a : Act} (hw : Region.wanted o (yielded ops a.tmps) = true) {ty : TypeId} {x : Operand} (ho : o.op = .load ty x) {g : Nat} {t : TypeId} {cs : Array Value} {d : TypeDesc} (hx : a.eval x = .pointer (some ⟨g, 0, none⟩))
    (hS : ∀ w, S w → Blk w g t cs) (hu : P.underlying ty = some d) (hd : (match d with | .struct _ | .array _ _ => true | _ => false) = true) (hi : (P.info? ty).map (·.size) = some cs.size) : YieldsIf P ops S o (.agg cs) a :=
  .inl ⟨hw, fun w h => by simp [execOp, ho, hx, Instr.loadAt, Instr.sureAddr, run_loadVar_row w g t ty cs (0, 0) d (hS w h) hu hd hi]⟩
theorem held_store {P : Program} {ops : Array Oper} {Q : Exit → Act → World → Prop} {S : World → Prop} {fuel i : Nat} {listed : Array Bool} {a : Act} {W : World} {o : Oper} (hr : Region.ready .any ops listed = [i]) (hi : ops[i]? = some o) (hgd : o.guard = none) (hN : o.dst = none) {t : TypeId} {p x : Operand} (ho : o.op = .store t p x) {g : Nat} {te : TypeId} {old cs : Array Value} (hB : Blk W g te old)
    (hp : a.eval p = .pointer (some ⟨g, 0, none⟩)) (hx : a.eval x = .agg cs) (hz : (P.info? t).map (·.size) = some cs.size) (hs : old.size = cs.size) (h1 : cs.all (·.oneCell') = true)
    (h : ∀ w1, Blk w1 g te cs → W.grownBy w1 (some g) → S w1 ∧ wpAnyH P .any ops Q S fuel (listed.setIfInBounds i true) a w1) : wpAnyH P .any ops Q S (fuel + 1) listed a W := by
  refine wpAnyH_all hr (by simp) fun j hj => ?_
  obtain rfl : j = i := by simpa using hj
  refine wpOp_step hi fun K' hK => ?_
  rw [if_pos (by simp [Region.wanted, hgd])]
  have hrun : (execOp a.eval o).run P W = .ok .skip (W.setRow g cs) := by
    have := run_storeVar_row (P := P) W g te t old cs hB hz hs h1
    simp [execOp, ho, hp, hx, Instr.storeAt, Instr.sureAddr, this]
  unfold Oper.wp
  rw [hrun]
  show K' (a.put o.dst undef) _
  rw [hN]
  exact hK _ _ (h _ (setRow_heap W g old cs te (0, 0) hB) ⟨rfl, rfl, rfl, by simp, fun i _ hne => setRow_other W g i cs (fun e => hne (by rw [e]))⟩)

set_option maxHeartbeats 4000000 in
set_option maxRecDepth 100000 in
theorem plain_calls (r : Rec) (A : Option Addr) (c : Nat) (w : World) (hd : RU w A r.Data) : HopSaid Tryd.prog 126 r (plainF r) r A c w := by
  unfold HopSaid
  have HB := Below.refl w.heap.size w
  have key : ∀ o1 o2 : Bool, (r.Pivot == 0) = o1 → (r.Code == 0) = o2 → Calls Tryd.prog 126 #[.agg (r.cells A c)] w fun e w' => ∃ A' c', e = .returned (.tuple #[.agg (r.cells A' c'), .bool (plainF r)]) ∧ RU w' A' r.Data ∧ Below w.heap.size w w' := by
    intro o1 o2 h1 h2
    have e : plainF r = (o1 && o2) := by unfold plainF; rw [h1, h2]
    rw [e]
    clear e
    cases o1 <;> cases o2
    · go_enter Tryd.func126, Tryd.ntmps126
      go_wp2_with (first
        | ((with_reducible refine gate_dst (N := 1) rfl ?_); refine ev_box rfl rfl (r.cells A c) rfl ?_; intro g1 W1 hg1 hsz hbn; have hgr := grown_of_below hbn; have zg1 : w.heap.size ≤ g1 := (by have := HB.size; omega); replace HB := HB.grown hgr (by have := HB.size; omega) (by simp); have hcg1 := hg1.cell; have hfg1 := hg1.frozen; clear hsz hbn hgr)
        | ((with_reducible refine gate_dst (N := 2) rfl ?_); refine ev_alloc rfl rfl _ rec_zero ?_; intro g2 W2 hg2 hsz hbn; have hgr := grown_of_below hbn; have ng1g2 : g1 ≠ g2 := (by have := hg1.lt; omega); replace hg2 : Blk W2 g2 _ (Rec.zero.cells none 0) := hg2; have zg2 : w.heap.size ≤ g2 := (by have := HB.size; omega); replace hg1 := hg1.grown hgr (by simp); replace HB := HB.grown hgr (by have := HB.size; omega) (by simp); have hcg2 := hg2.cell; have hfg2 := hg2.frozen; replace hcg1 := hg1.cell; replace hfg1 := hg1.frozen; clear hsz hbn hgr))
      refine wp_region_held (S := fun w' => Blk w' g1 35 (r.cells A c)) (by kernel_rfl) ?_
      refine take_at (i := 0) 4 rfl rfl (by kernel_rfl) (by kernel_rfl) (by kernel_rfl) (fun _ _ _ h => h) (yields_row rfl rfl rfl (fun _ h => h) Tryd.underlying35 rfl rec_size) (hg1.drewN 1) ?_
      simp only [Act.put, List.setIfInBounds_toArray, List.set_cons_succ, List.set_cons_zero]
      refine take_at (i := 1) (v := .pointer (some ⟨g1, 9, none⟩)) 5 rfl rfl (by kernel_rfl) (by kernel_rfl) (by kernel_rfl) (fun _ _ _ h => h) (.inl ⟨rfl, fun w h => by simp [go_sem, h.cell, h1, h2]⟩) (hg1.drewN 1) ?_
      simp only [Act.put, List.setIfInBounds_toArray, List.set_cons_succ, List.set_cons_zero]
      refine take_at (i := 2) (v := .int .i64 r.Pivot) 6 rfl rfl (by kernel_rfl) (by kernel_rfl) (by kernel_rfl) (fun _ _ _ h => h) (.inl ⟨rfl, fun w h => by simp [go_sem, h.cell, h1, h2]⟩) (hg1.drewN 1) ?_
      simp only [Act.put, List.setIfInBounds_toArray, List.set_cons_succ, List.set_cons_zero]
      refine take_at (i := 3) (v := .bool false) 7 rfl rfl (by kernel_rfl) (by kernel_rfl) (by kernel_rfl) (fun _ _ _ h => h) (.inl ⟨rfl, fun w h => by simp [go_sem, h.cell, h1, h2]⟩) (hg1.drewN 1) ?_
      simp only [Act.put, List.setIfInBounds_toArray, List.set_cons_succ, List.set_cons_zero]
      refine take_at (i := 4) (v := .bool false) 8 rfl rfl (by kernel_rfl) (by kernel_rfl) (by kernel_rfl) (fun _ _ _ h => h) (.inl ⟨rfl, fun w h => by simp [go_sem, h.cell, h1, h2]⟩) (hg1.drewN 1) ?_
      simp only [Act.put, List.setIfInBounds_toArray, List.set_cons_succ, List.set_cons_zero]
      refine take_at (i := 5) (v := undef) 9 rfl rfl (by kernel_rfl) (by kernel_rfl) (by kernel_rfl) (fun _ _ _ h => h) (.inr ⟨by simp [Region.wanted, yielded], rfl⟩) (hg1.drewN 1) ?_
      simp only [Act.put, List.setIfInBounds_toArray, List.set_cons_succ, List.set_cons_zero]
      refine take_at (i := 6) (v := undef) 10 rfl rfl (by kernel_rfl) (by kernel_rfl) (by kernel_rfl) (fun _ _ _ h => h) (.inr ⟨by simp [Region.wanted, yielded], rfl⟩) (hg1.drewN 1) ?_
      simp only [Act.put, List.setIfInBounds_toArray, List.set_cons_succ, List.set_cons_zero]
      refine take_at (i := 7) (v := undef) 11 rfl rfl (by kernel_rfl) (by kernel_rfl) (by kernel_rfl) (fun _ _ _ h => h) (.inr ⟨by simp [Region.wanted, yielded], rfl⟩) (hg1.drewN 1) ?_
      simp only [Act.put, List.setIfInBounds_toArray, List.set_cons_succ, List.set_cons_zero]
      refine take_at (i := 8) (v := .bool false) 12 rfl rfl (by kernel_rfl) (by kernel_rfl) (by kernel_rfl) (fun _ _ _ h => h) (.inl ⟨by simp [Region.wanted, yielded], fun w h => by simp [go_sem, h.cell, h1, h2]⟩) (hg1.drewN 1) ?_
      simp only [Act.put, List.setIfInBounds_toArray, List.set_cons_succ, List.set_cons_zero]
      refine held_store (S := fun w' => Blk w' g1 35 (r.cells A c)) (P := Tryd.prog) (i := 9) (g := g2) (te := 35) (old := Rec.zero.cells none 0) (cs := r.cells A c) (t := 35) (p := .tmp 2) (x := .tmp 4) (by kernel_rfl) rfl rfl rfl rfl (hg2.drewN 1) (by simp [go_sem]) (by simp [go_sem]) rec_size rfl (cells_one _ _ _) (fun w3 hg2 hgr => ⟨(hg1.drewN 1).grown hgr (by intro e; injection e with e; omega), ?_⟩)
      have hg1' : Blk w3 g1 35 (r.cells A c) := (hg1.drewN 1).grown hgr (by intro e; injection e with e; omega)
      replace HB := (below_drewN HB 1).grown hgr (by have := (below_drewN HB 1).size; omega) (by intro k e; injection e with e; omega)
      refine take_at (i := 10) (v := .bool false) 3 rfl rfl (by kernel_rfl) (by kernel_rfl) (by kernel_rfl) (fun _ _ _ h => h) (.inl ⟨by simp [Region.wanted, yielded], fun w h => by simp [go_sem, h.cell, h1, h2]⟩) hg1' ?_
      simp only [Act.put, List.setIfInBounds_toArray, List.set_cons_succ, List.set_cons_zero]
      refine wpAnyH_done (by kernel_rfl) ?_ _
      go_wp2
      refine ret_row rfl hg2 rfl Tryd.underlying35 rfl rec_size rfl ?_
      exact ⟨A, c, rfl, hd.next HB, HB⟩
    · go_enter Tryd.func126, Tryd.ntmps126
      go_wp2_with (first
        | ((with_reducible refine gate_dst (N := 1) rfl ?_); refine ev_box rfl rfl (r.cells A c) rfl ?_; intro g1 W1 hg1 hsz hbn; have hgr := grown_of_below hbn; have zg1 : w.heap.size ≤ g1 := (by have := HB.size; omega); replace HB := HB.grown hgr (by have := HB.size; omega) (by simp); have hcg1 := hg1.cell; have hfg1 := hg1.frozen; clear hsz hbn hgr)
        | ((with_reducible refine gate_dst (N := 2) rfl ?_); refine ev_alloc rfl rfl _ rec_zero ?_; intro g2 W2 hg2 hsz hbn; have hgr := grown_of_below hbn; have ng1g2 : g1 ≠ g2 := (by have := hg1.lt; omega); replace hg2 : Blk W2 g2 _ (Rec.zero.cells none 0) := hg2; have zg2 : w.heap.size ≤ g2 := (by have := HB.size; omega); replace hg1 := hg1.grown hgr (by simp); replace HB := HB.grown hgr (by have := HB.size; omega) (by simp); have hcg2 := hg2.cell; have hfg2 := hg2.frozen; replace hcg1 := hg1.cell; replace hfg1 := hg1.frozen; clear hsz hbn hgr))
      refine wp_region_held (S := fun w' => Blk w' g1 35 (r.cells A c)) (by kernel_rfl) ?_
      refine take_at (i := 0) 4 rfl rfl (by kernel_rfl) (by kernel_rfl) (by kernel_rfl) (fun _ _ _ h => h) (yields_row rfl rfl rfl (fun _ h => h) Tryd.underlying35 rfl rec_size) (hg1.drewN 1) ?_
      simp only [Act.put, List.setIfInBounds_toArray, List.set_cons_succ, List.set_cons_zero]
      refine take_at (i := 1) (v := .pointer (some ⟨g1, 9, none⟩)) 5 rfl rfl (by kernel_rfl) (by kernel_rfl) (by kernel_rfl) (fun _ _ _ h => h) (.inl ⟨rfl, fun w h => by simp [go_sem, h.cell, h1, h2]⟩) (hg1.drewN 1) ?_
      simp only [Act.put, List.setIfInBounds_toArray, List.set_cons_succ, List.set_cons_zero]
      refine take_at (i := 2) (v := .int .i64 r.Pivot) 6 rfl rfl (by kernel_rfl) (by kernel_rfl) (by kernel_rfl) (fun _ _ _ h => h) (.inl ⟨rfl, fun w h => by simp [go_sem, h.cell, h1, h2]⟩) (hg1.drewN 1) ?_
      simp only [Act.put, List.setIfInBounds_toArray, List.set_cons_succ, List.set_cons_zero]
      refine take_at (i := 3) (v := .bool false) 7 rfl rfl (by kernel_rfl) (by kernel_rfl) (by kernel_rfl) (fun _ _ _ h => h) (.inl ⟨rfl, fun w h => by simp [go_sem, h.cell, h1, h2]⟩) (hg1.drewN 1) ?_
      simp only [Act.put, List.setIfInBounds_toArray, List.set_cons_succ, List.set_cons_zero]
      refine take_at (i := 4) (v := .bool false) 8 rfl rfl (by kernel_rfl) (by kernel_rfl) (by kernel_rfl) (fun _ _ _ h => h) (.inl ⟨rfl, fun w h => by simp [go_sem, h.cell, h1, h2]⟩) (hg1.drewN 1) ?_
      simp only [Act.put, List.setIfInBounds_toArray, List.set_cons_succ, List.set_cons_zero]
      refine take_at (i := 5) (v := undef) 9 rfl rfl (by kernel_rfl) (by kernel_rfl) (by kernel_rfl) (fun _ _ _ h => h) (.inr ⟨by simp [Region.wanted, yielded], rfl⟩) (hg1.drewN 1) ?_
      simp only [Act.put, List.setIfInBounds_toArray, List.set_cons_succ, List.set_cons_zero]
      refine take_at (i := 6) (v := undef) 10 rfl rfl (by kernel_rfl) (by kernel_rfl) (by kernel_rfl) (fun _ _ _ h => h) (.inr ⟨by simp [Region.wanted, yielded], rfl⟩) (hg1.drewN 1) ?_
      simp only [Act.put, List.setIfInBounds_toArray, List.set_cons_succ, List.set_cons_zero]
      refine take_at (i := 7) (v := undef) 11 rfl rfl (by kernel_rfl) (by kernel_rfl) (by kernel_rfl) (fun _ _ _ h => h) (.inr ⟨by simp [Region.wanted, yielded], rfl⟩) (hg1.drewN 1) ?_
      simp only [Act.put, List.setIfInBounds_toArray, List.set_cons_succ, List.set_cons_zero]
      refine take_at (i := 8) (v := .bool false) 12 rfl rfl (by kernel_rfl) (by kernel_rfl) (by kernel_rfl) (fun _ _ _ h => h) (.inl ⟨by simp [Region.wanted, yielded], fun w h => by simp [go_sem, h.cell, h1, h2]⟩) (hg1.drewN 1) ?_
      simp only [Act.put, List.setIfInBounds_toArray, List.set_cons_succ, List.set_cons_zero]
      refine held_store (S := fun w' => Blk w' g1 35 (r.cells A c)) (P := Tryd.prog) (i := 9) (g := g2) (te := 35) (old := Rec.zero.cells none 0) (cs := r.cells A c) (t := 35) (p := .tmp 2) (x := .tmp 4) (by kernel_rfl) rfl rfl rfl rfl (hg2.drewN 1) (by simp [go_sem]) (by simp [go_sem]) rec_size rfl (cells_one _ _ _) (fun w3 hg2 hgr => ⟨(hg1.drewN 1).grown hgr (by intro e; injection e with e; omega), ?_⟩)
      have hg1' : Blk w3 g1 35 (r.cells A c) := (hg1.drewN 1).grown hgr (by intro e; injection e with e; omega)
      replace HB := (below_drewN HB 1).grown hgr (by have := (below_drewN HB 1).size; omega) (by intro k e; injection e with e; omega)
      refine take_at (i := 10) (v := .bool false) 3 rfl rfl (by kernel_rfl) (by kernel_rfl) (by kernel_rfl) (fun _ _ _ h => h) (.inl ⟨by simp [Region.wanted, yielded], fun w h => by simp [go_sem, h.cell, h1, h2]⟩) hg1' ?_
      simp only [Act.put, List.setIfInBounds_toArray, List.set_cons_succ, List.set_cons_zero]
      refine wpAnyH_done (by kernel_rfl) ?_ _
      go_wp2
      refine ret_row rfl hg2 rfl Tryd.underlying35 rfl rec_size rfl ?_
      exact ⟨A, c, rfl, hd.next HB, HB⟩
    · go_enter Tryd.func126, Tryd.ntmps126
      go_wp2_with (first
        | ((with_reducible refine gate_dst (N := 1) rfl ?_); refine ev_box rfl rfl (r.cells A c) rfl ?_; intro g1 W1 hg1 hsz hbn; have hgr := grown_of_below hbn; have zg1 : w.heap.size ≤ g1 := (by have := HB.size; omega); replace HB := HB.grown hgr (by have := HB.size; omega) (by simp); have hcg1 := hg1.cell; have hfg1 := hg1.frozen; clear hsz hbn hgr)
        | ((with_reducible refine gate_dst (N := 2) rfl ?_); refine ev_alloc rfl rfl _ rec_zero ?_; intro g2 W2 hg2 hsz hbn; have hgr := grown_of_below hbn; have ng1g2 : g1 ≠ g2 := (by have := hg1.lt; omega); replace hg2 : Blk W2 g2 _ (Rec.zero.cells none 0) := hg2; have zg2 : w.heap.size ≤ g2 := (by have := HB.size; omega); replace hg1 := hg1.grown hgr (by simp); replace HB := HB.grown hgr (by have := HB.size; omega) (by simp); have hcg2 := hg2.cell; have hfg2 := hg2.frozen; replace hcg1 := hg1.cell; replace hfg1 := hg1.frozen; clear hsz hbn hgr))
      refine wp_region_held (S := fun w' => Blk w' g1 35 (r.cells A c)) (by kernel_rfl) ?_
      refine take_at (i := 0) 4 rfl rfl (by kernel_rfl) (by kernel_rfl) (by kernel_rfl) (fun _ _ _ h => h) (yields_row rfl rfl rfl (fun _ h => h) Tryd.underlying35 rfl rec_size) (hg1.drewN 1) ?_
      simp only [Act.put, List.setIfInBounds_toArray, List.set_cons_succ, List.set_cons_zero]
      refine take_at (i := 1) (v := .pointer (some ⟨g1, 9, none⟩)) 5 rfl rfl (by kernel_rfl) (by kernel_rfl) (by kernel_rfl) (fun _ _ _ h => h) (.inl ⟨rfl, fun w h => by simp [go_sem, h.cell, h1, h2]⟩) (hg1.drewN 1) ?_
      simp only [Act.put, List.setIfInBounds_toArray, List.set_cons_succ, List.set_cons_zero]
      refine take_at (i := 2) (v := .int .i64 r.Pivot) 6 rfl rfl (by kernel_rfl) (by kernel_rfl) (by kernel_rfl) (fun _ _ _ h => h) (.inl ⟨rfl, fun w h => by simp [go_sem, h.cell, h1, h2]⟩) (hg1.drewN 1) ?_
      simp only [Act.put, List.setIfInBounds_toArray, List.set_cons_succ, List.set_cons_zero]
      refine take_at (i := 3) (v := .bool true) 7 rfl rfl (by kernel_rfl) (by kernel_rfl) (by kernel_rfl) (fun _ _ _ h => h) (.inl ⟨rfl, fun w h => by simp [go_sem, h.cell, h1, h2]⟩) (hg1.drewN 1) ?_
      simp only [Act.put, List.setIfInBounds_toArray, List.set_cons_succ, List.set_cons_zero]
      refine take_at (i := 4) (v := .bool true) 8 rfl rfl (by kernel_rfl) (by kernel_rfl) (by kernel_rfl) (fun _ _ _ h => h) (.inl ⟨rfl, fun w h => by simp [go_sem, h.cell, h1, h2]⟩) (hg1.drewN 1) ?_
      simp only [Act.put, List.setIfInBounds_toArray, List.set_cons_succ, List.set_cons_zero]
      refine take_at (i := 5) (v := .pointer (some ⟨g1, 7, none⟩)) 9 rfl rfl (by kernel_rfl) (by kernel_rfl) (by kernel_rfl) (fun _ _ _ h => h) (.inl ⟨by simp [Region.wanted, yielded], fun w h => by simp [go_sem, h.cell, h1, h2]⟩) (hg1.drewN 1) ?_
      simp only [Act.put, List.setIfInBounds_toArray, List.set_cons_succ, List.set_cons_zero]
      refine take_at (i := 6) (v := .int .i64 r.Code) 10 rfl rfl (by kernel_rfl) (by kernel_rfl) (by kernel_rfl) (fun _ _ _ h => h) (.inl ⟨by simp [Region.wanted, yielded], fun w h => by simp [go_sem, h.cell, h1, h2]⟩) (hg1.drewN 1) ?_
      simp only [Act.put, List.setIfInBounds_toArray, List.set_cons_succ, List.set_cons_zero]
      refine take_at (i := 7) (v := .bool false) 11 rfl rfl (by kernel_rfl) (by kernel_rfl) (by kernel_rfl) (fun _ _ _ h => h) (.inl ⟨by simp [Region.wanted, yielded], fun w h => by simp [go_sem, h.cell, h1, h2]⟩) (hg1.drewN 1) ?_
      simp only [Act.put, List.setIfInBounds_toArray, List.set_cons_succ, List.set_cons_zero]
      refine take_at (i := 8) (v := .bool false) 12 rfl rfl (by kernel_rfl) (by kernel_rfl) (by kernel_rfl) (fun _ _ _ h => h) (.inl ⟨by simp [Region.wanted, yielded], fun w h => by simp [go_sem, h.cell, h1, h2]⟩) (hg1.drewN 1) ?_
      simp only [Act.put, List.setIfInBounds_toArray, List.set_cons_succ, List.set_cons_zero]
      refine held_store (S := fun w' => Blk w' g1 35 (r.cells A c)) (P := Tryd.prog) (i := 9) (g := g2) (te := 35) (old := Rec.zero.cells none 0) (cs := r.cells A c) (t := 35) (p := .tmp 2) (x := .tmp 4) (by kernel_rfl) rfl rfl rfl rfl (hg2.drewN 1) (by simp [go_sem]) (by simp [go_sem]) rec_size rfl (cells_one _ _ _) (fun w3 hg2 hgr => ⟨(hg1.drewN 1).grown hgr (by intro e; injection e with e; omega), ?_⟩)
      have hg1' : Blk w3 g1 35 (r.cells A c) := (hg1.drewN 1).grown hgr (by intro e; injection e with e; omega)
      replace HB := (below_drewN HB 1).grown hgr (by have := (below_drewN HB 1).size; omega) (by intro k e; injection e with e; omega)
      refine take_at (i := 10) (v := .bool false) 3 rfl rfl (by kernel_rfl) (by kernel_rfl) (by kernel_rfl) (fun _ _ _ h => h) (.inl ⟨by simp [Region.wanted, yielded], fun w h => by simp [go_sem, h.cell, h1, h2]⟩) hg1' ?_
      simp only [Act.put, List.setIfInBounds_toArray, List.set_cons_succ, List.set_cons_zero]
      refine wpAnyH_done (by kernel_rfl) ?_ _
      go_wp2
      refine ret_row rfl hg2 rfl Tryd.underlying35 rfl rec_size rfl ?_
      exact ⟨A, c, rfl, hd.next HB, HB⟩
    · go_enter Tryd.func126, Tryd.ntmps126
      go_wp2_with (first
        | ((with_reducible refine gate_dst (N := 1) rfl ?_); refine ev_box rfl rfl (r.cells A c) rfl ?_; intro g1 W1 hg1 hsz hbn; have hgr := grown_of_below hbn; have zg1 : w.heap.size ≤ g1 := (by have := HB.size; omega); replace HB := HB.grown hgr (by have := HB.size; omega) (by simp); have hcg1 := hg1.cell; have hfg1 := hg1.frozen; clear hsz hbn hgr)
        | ((with_reducible refine gate_dst (N := 2) rfl ?_); refine ev_alloc rfl rfl _ rec_zero ?_; intro g2 W2 hg2 hsz hbn; have hgr := grown_of_below hbn; have ng1g2 : g1 ≠ g2 := (by have := hg1.lt; omega); replace hg2 : Blk W2 g2 _ (Rec.zero.cells none 0) := hg2; have zg2 : w.heap.size ≤ g2 := (by have := HB.size; omega); replace hg1 := hg1.grown hgr (by simp); replace HB := HB.grown hgr (by have := HB.size; omega) (by simp); have hcg2 := hg2.cell; have hfg2 := hg2.frozen; replace hcg1 := hg1.cell; replace hfg1 := hg1.frozen; clear hsz hbn hgr))
      refine wp_region_held (S := fun w' => Blk w' g1 35 (r.cells A c)) (by kernel_rfl) ?_
      refine take_at (i := 0) 4 rfl rfl (by kernel_rfl) (by kernel_rfl) (by kernel_rfl) (fun _ _ _ h => h) (yields_row rfl rfl rfl (fun _ h => h) Tryd.underlying35 rfl rec_size) (hg1.drewN 1) ?_
      simp only [Act.put, List.setIfInBounds_toArray, List.set_cons_succ, List.set_cons_zero]
      refine take_at (i := 1) (v := .pointer (some ⟨g1, 9, none⟩)) 5 rfl rfl (by kernel_rfl) (by kernel_rfl) (by kernel_rfl) (fun _ _ _ h => h) (.inl ⟨rfl, fun w h => by simp [go_sem, h.cell, h1, h2]⟩) (hg1.drewN 1) ?_
      simp only [Act.put, List.setIfInBounds_toArray, List.set_cons_succ, List.set_cons_zero]
      refine take_at (i := 2) (v := .int .i64 r.Pivot) 6 rfl rfl (by kernel_rfl) (by kernel_rfl) (by kernel_rfl) (fun _ _ _ h => h) (.inl ⟨rfl, fun w h => by simp [go_sem, h.cell, h1, h2]⟩) (hg1.drewN 1) ?_
      simp only [Act.put, List.setIfInBounds_toArray, List.set_cons_succ, List.set_cons_zero]
      refine take_at (i := 3) (v := .bool true) 7 rfl rfl (by kernel_rfl) (by kernel_rfl) (by kernel_rfl) (fun _ _ _ h => h) (.inl ⟨rfl, fun w h => by simp [go_sem, h.cell, h1, h2]⟩) (hg1.drewN 1) ?_
      simp only [Act.put, List.setIfInBounds_toArray, List.set_cons_succ, List.set_cons_zero]
      refine take_at (i := 4) (v := .bool true) 8 rfl rfl (by kernel_rfl) (by kernel_rfl) (by kernel_rfl) (fun _ _ _ h => h) (.inl ⟨rfl, fun w h => by simp [go_sem, h.cell, h1, h2]⟩) (hg1.drewN 1) ?_
      simp only [Act.put, List.setIfInBounds_toArray, List.set_cons_succ, List.set_cons_zero]
      refine take_at (i := 5) (v := .pointer (some ⟨g1, 7, none⟩)) 9 rfl rfl (by kernel_rfl) (by kernel_rfl) (by kernel_rfl) (fun _ _ _ h => h) (.inl ⟨by simp [Region.wanted, yielded], fun w h => by simp [go_sem, h.cell, h1, h2]⟩) (hg1.drewN 1) ?_
      simp only [Act.put, List.setIfInBounds_toArray, List.set_cons_succ, List.set_cons_zero]
      refine take_at (i := 6) (v := .int .i64 r.Code) 10 rfl rfl (by kernel_rfl) (by kernel_rfl) (by kernel_rfl) (fun _ _ _ h => h) (.inl ⟨by simp [Region.wanted, yielded], fun w h => by simp [go_sem, h.cell, h1, h2]⟩) (hg1.drewN 1) ?_
      simp only [Act.put, List.setIfInBounds_toArray, List.set_cons_succ, List.set_cons_zero]
      refine take_at (i := 7) (v := .bool true) 11 rfl rfl (by kernel_rfl) (by kernel_rfl) (by kernel_rfl) (fun _ _ _ h => h) (.inl ⟨by simp [Region.wanted, yielded], fun w h => by simp [go_sem, h.cell, h1, h2]⟩) (hg1.drewN 1) ?_
      simp only [Act.put, List.setIfInBounds_toArray, List.set_cons_succ, List.set_cons_zero]
      refine take_at (i := 8) (v := .bool true) 12 rfl rfl (by kernel_rfl) (by kernel_rfl) (by kernel_rfl) (fun _ _ _ h => h) (.inl ⟨by simp [Region.wanted, yielded], fun w h => by simp [go_sem, h.cell, h1, h2]⟩) (hg1.drewN 1) ?_
      simp only [Act.put, List.setIfInBounds_toArray, List.set_cons_succ, List.set_cons_zero]
      refine held_store (S := fun w' => Blk w' g1 35 (r.cells A c)) (P := Tryd.prog) (i := 9) (g := g2) (te := 35) (old := Rec.zero.cells none 0) (cs := r.cells A c) (t := 35) (p := .tmp 2) (x := .tmp 4) (by kernel_rfl) rfl rfl rfl rfl (hg2.drewN 1) (by simp [go_sem]) (by simp [go_sem]) rec_size rfl (cells_one _ _ _) (fun w3 hg2 hgr => ⟨(hg1.drewN 1).grown hgr (by intro e; injection e with e; omega), ?_⟩)
      have hg1' : Blk w3 g1 35 (r.cells A c) := (hg1.drewN 1).grown hgr (by intro e; injection e with e; omega)
      replace HB := (below_drewN HB 1).grown hgr (by have := (below_drewN HB 1).size; omega) (by intro k e; injection e with e; omega)
      refine take_at (i := 10) (v := .bool true) 3 rfl rfl (by kernel_rfl) (by kernel_rfl) (by kernel_rfl) (fun _ _ _ h => h) (.inl ⟨by simp [Region.wanted, yielded], fun w h => by simp [go_sem, h.cell, h1, h2]⟩) hg1' ?_
      simp only [Act.put, List.setIfInBounds_toArray, List.set_cons_succ, List.set_cons_zero]
      refine wpAnyH_done (by kernel_rfl) ?_ _
      go_wp2
      refine ret_row rfl hg2 rfl Tryd.underlying35 rfl rec_size rfl ?_
      exact ⟨A, c, rfl, hd.next HB, HB⟩
  exact key _ _ rfl rfl
end Go.Proofs.YtjhiohjpkdjkoaaDoor
