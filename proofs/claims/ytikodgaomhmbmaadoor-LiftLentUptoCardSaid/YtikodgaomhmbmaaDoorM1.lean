/-
  The reference of layer 4, walked: second, Up, guess, Down, Least, UpAll, Steps; regions in a drawn order.
-/
import Derived.Test.YtikodgaomhmbmaaDoorMD
import Derived.Laws.CopyRow
import Derived.Test.YtikodgaomhmbmaaDoorG3
import Derived.Test.YtikodgaomhmbmaaDoorCL
import Derived.Test.YtikodgaomhmbmaaDoorL3
set_option linter.unusedVariables false
set_option linter.unusedSimpArgs false
namespace Go.Proofs.YtikodgaomhmbmaaDoor
open Go.RowKit

/-- K behind a normal end, Q behind any other. -/
def Behind (K : Act → World → Prop) (Q : Exit → Act → World → Prop) : Exit → Act → World → Prop
  | .normal, a, w => K a w
  | x, a, w => Q x a w
theorem wpOp_of_list {P : Program} {ops : Array Oper} {Q : Exit → Act → World → Prop} {i : Nat} {o : Oper} {K : Act → World → Prop} {a : Act} {w : World} (hi : ops[i]? = some o) (h : wpList P ops (Behind K Q) [o] a w) : wpOp P ops Q i K a w := by
  unfold wpOp
  rw [hi]
  show if Region.wanted o (yielded ops a.tmps) = true then _ else _
  unfold wpList at h
  split
  · rename_i hw
    rw [if_pos hw] at h
    rcases h with h | ⟨h1, a', w', h2⟩
    · refine .inl ?_
      unfold Oper.wp at *
      generalize (execOp a.eval o).run P w = r at h ⊢
      cases r with
      | ok n w' =>
        cases n
        all_goals first
          | exact h
          | exact Calls.mono h (fun e w'' he => by
              cases e
              all_goals first
                | exact he
                | (obtain ⟨a1, w1, h1⟩ := he; exact ⟨a1, w1, h1⟩))
      | halt x w' => cases x <;> exact h
    · exact .inr ⟨h1, a', w', h2⟩
  · rename_i hw
    rw [if_neg hw] at h
    exact h
/-- The beginning: the world behind the draw is like the one ahead. -/
theorem held_start {P : Program} {ops : Array Oper} {Q : Exit → Act → World → Prop} (S : World → Prop) {id : Nat} {a : Act} {w : World} (hm : P.follows .mixedOrders = true)
    (h : ∀ w', Below w.heap.size w w' → wpAnyH P .any ops Q S ops.size (Array.replicate ops.size false) a w') : (Code.region id ops true).wp P Q a w := wp_region_held hm (h _ (Below.refl _ _).drew)
/-- The one operation that may come up. -/
theorem held_one {P : Program} {ops : Array Oper} {Q : Exit → Act → World → Prop} {S : World → Prop} {i : Nat} {o : Oper} {fuel : Nat} {listed : Array Bool} {a : Act} {w : World} (hr : Region.ready .any ops listed = [i]) (hi : ops[i]? = some o)
    (h : wpList P ops (Behind (fun a' w' => S w' ∧ wpAnyH P .any ops Q S fuel (listed.setIfInBounds i true) a' w') Q) [o] a w) : wpAnyH P .any ops Q S (fuel + 1) listed a w :=
  wpAnyH_all hr (by simp) fun j hj => by
    obtain rfl : j = i := by simpa using hj
    exact wpOp_of_list hi h
/-- One of two. -/
theorem held_two {P : Program} {ops : Array Oper} {Q : Exit → Act → World → Prop} {S : World → Prop} {i j : Nat} {o o' : Oper} {fuel : Nat} {listed : Array Bool} {a : Act} {w : World} (hr : Region.ready .any ops listed = [i, j]) (hi : ops[i]? = some o) (hj : ops[j]? = some o')
    (h : wpList P ops (Behind (fun a' w' => S w' ∧ wpAnyH P .any ops Q S fuel (listed.setIfInBounds i true) a' w') Q) [o] a w)
    (h' : wpList P ops (Behind (fun a' w' => S w' ∧ wpAnyH P .any ops Q S fuel (listed.setIfInBounds j true) a' w') Q) [o'] a w) : wpAnyH P .any ops Q S (fuel + 1) listed a w :=
  wpAnyH_all hr (by simp) fun x hx => by
    rcases (by simpa using hx : x = i ∨ x = j) with rfl | rfl
    · exact wpOp_of_list hi h
    · exact wpOp_of_list hj h'
theorem yields_at {P : Program} {ops : Array Oper} {S : World → Prop} {o : Oper} {a : Act} (hw : Region.wanted o (yielded ops a.tmps) = true) {ty : TypeId} {x : Operand} (ho : o.op = .load ty x) {ad : Addr} {cs : Array Value} {d : TypeDesc} (hx : a.eval x = .pointer (some ad))
    (hS : ∀ w, S w → ∀ j v, cs[j]? = some v → w.cell? (ad.add j) = some v) (hu : P.underlying ty = some d) (hd : (match d with | .struct _ | .array _ _ => true | _ => false) = true) (hi : (P.info? ty).map (·.size) = some cs.size) : YieldsIf P ops S o (.agg cs) a :=
  .inl ⟨hw, fun w h => by simp [execOp, ho, hx, Instr.loadAt, Instr.sureAddr, run_loadVar_at w ad ty cs d (hS w h) hu hd hi]⟩
section
variable {P : Program} {ops : Array Oper} {rest : List Oper} {o : Oper} {a : Act} {Q : Exit → Act → World → Prop} {W : World}
/-- A call, as an operation by itself. -/
theorem ev_call (hgd : o.guard = none) {f : FuncId} {xs : Array Operand} {ats : Array TypeId} (ho : o.op = .call { callee := .value (.func f), args := xs, argTypes := ats }) (hf : Coded P f) {args : Array Value} (hargs : xs.map a.eval = args)
    (h : Calls P f args W fun e w' => ∃ u, e = .returned u ∧ wpList P ops Q rest (a.put o.dst u) w') : wpList P ops Q (o :: rest) a W := by
  obtain ⟨fn, c, h1, h2, h3⟩ := hf
  have hfv : a.eval (.func f) = .func (.func f) #[] #[] := rfl
  have hrun : (execOp a.eval o).run P W = .ok (.enter f args) W := by
    simp [execOp, ho, resolve, Deferred.ofValue, hfv, hargs, invoke, callFunc, Sem.run_bind, h1, beq_eq_false_iff_ne.1 h2, h3, Result.andThen]
  refine wpList_plain hgd fun K hK => ?_
  unfold Oper.wp
  rw [hrun, Oper.upon_enter]
  exact h.mono fun e w' ⟨u, he, hw⟩ => by subst he; exact hK _ _ hw
theorem ev_call1 (hgd : o.guard = none) {f : FuncId} {x : Operand} {ats : Array TypeId} (ho : o.op = .call { callee := .value (.func f), args := #[x], argTypes := ats }) (hf : Coded P f) {v : Value} (hx : a.eval x = v)
    (h : Calls P f #[v] W fun e w' => ∃ u, e = .returned u ∧ wpList P ops Q rest (a.put o.dst u) w') : wpList P ops Q (o :: rest) a W := ev_call hgd ho hf (by simp [hx]) h
theorem ev_call2 (hgd : o.guard = none) {f : FuncId} {x y : Operand} {ats : Array TypeId} (ho : o.op = .call { callee := .value (.func f), args := #[x, y], argTypes := ats }) (hf : Coded P f) {v u : Value} (hx : a.eval x = v) (hy : a.eval y = u)
    (h : Calls P f #[v, u] W fun e w' => ∃ z, e = .returned z ∧ wpList P ops Q rest (a.put o.dst z) w') : wpList P ops Q (o :: rest) a W := ev_call hgd ho hf (by simp [hx, hy]) h
/-- A struct is stored into a part of a block. -/
theorem ev_store_part (hgd : o.guard = none) (hN : o.dst = none) {t : TypeId} {p x : Operand} (ho : o.op = .store t p x) {g off : Nat} {te : TypeId} {old cs new : Array Value} (hB : Blk W g te old)
    (hp : a.eval p = .pointer (some ⟨g, off, none⟩)) (hx : a.eval x = .agg cs) (hi : (P.info? t).map (·.size) = some cs.size) (hfit : off + cs.size ≤ old.size) (h1 : cs.all (·.oneCell') = true)
    (hnew : (old.toList.take off ++ cs.toList ++ old.toList.drop (off + cs.size)).toArray = new)
    (h : ∀ w1, Blk w1 g te new → W.grownBy w1 (some g) → wpList P ops Q rest a w1) : wpList P ops Q (o :: rest) a W := by
  have hst := run_storeCells_at P g off te cs.toList 0 old W hB (by simpa using hfit) (fun v hv => Array.all_eq_true_iff_forall_mem.1 h1 v (by simpa using hv))
  have hst2 : (storeVar t ⟨g, off, none⟩ (.agg cs)).run P W = .ok () (W.setRow g new) := by
    obtain ⟨i, hq, hs⟩ := Option.map_eq_some_iff.1 hi
    simp only [Nat.add_zero, Array.length_toList] at hst
    rw [hnew] at hst
    simp [storeVar, sizeOf, typeInfo, hq, Value.cells, hs, hst]
  refine ev_skip hgd hN (w1 := W.setRow g new) ?_ (h _ (setRow_heap W g old new te (0, 0) hB) ?_)
  · simp [execOp, ho, hp, hx, Instr.storeAt, Instr.sureAddr, hst2]
  · exact ⟨rfl, rfl, rfl, by simp, fun i _ hne => setRow_other W g i new (fun e => hne (by rw [e]))⟩
end
end Go.Proofs.YtikodgaomhmbmaaDoor
namespace Go.Proofs.YtikodgaomhmbmaaDoor
open Go.RowKit
attribute [local go_sem] Rec.size_ Rec.g0 Rec.g1 Rec.g2 Rec.g3 Rec.g4 Rec.g5 Rec.g6 Rec.g7 Rec.g8 Rec.g9 Rec.g10 Rec.g11 Rec.fold

set_option maxHeartbeats 1000000 in
set_option maxRecDepth 100000 in
theorem second_calls (r : Rec) (A : Option Addr) (c : Nat) (hl : r.Data.length ≤ 140737488351232) (w : World) (hd : RB w A r.Data) :
    Calls Tryd.prog 65 #[.agg (r.cells A c)] w fun e w' => ∃ A' c', e = .returned (.agg (({ fillR r with V := 2 } : Rec).cells A' c')) ∧ RU w' A' (fillR r).Data ∧ Below w.heap.size w w' := by
  have HB := Below.refl w.heap.size w
  by_cases k1 : r.Kind = 1
  · have e : fillR r = { r with Name := ⟨r.Data.toArray⟩, Data := [], Count := r.Step, Step := 0 } := if_pos k1
    rw [e]
    clear e
    have t1 := int_beq_true k1
    clear k1
    go_enter Tryd.func65, Tryd.ntmps65
    go_wp2_with (first
      | ((with_reducible refine gate_dst (N := 1) rfl ?_); refine ev_box rfl rfl (r.cells A c) rfl ?_; intro g1 W1 hg1 hsz hbn; have hgr := grown_of_below hbn; have zg1 : w.heap.size ≤ g1 := (by have := HB.size; omega); replace HB := HB.grown hgr (by have := HB.size; omega) (by simp); have hcg1 := hg1.cell; have hfg1 := hg1.frozen; clear hsz hbn hgr)
      | ((with_reducible refine gate_dst (N := 2) rfl ?_); refine ev_alloc rfl rfl _ rec_zero ?_; intro g2 W2 hg2 hsz hbn; have hgr := grown_of_below hbn; have ng1g2 : g1 ≠ g2 := (by have := hg1.lt; omega); replace hg2 : Blk W2 g2 _ (Rec.zero.cells none 0) := hg2; have zg2 : w.heap.size ≤ g2 := (by have := HB.size; omega); replace hg1 := hg1.grown hgr (by simp); replace HB := HB.grown hgr (by have := HB.size; omega) (by simp); have hcg2 := hg2.cell; have hfg2 := hg2.frozen; replace hcg1 := hg1.cell; replace hfg1 := hg1.frozen; clear hsz hbn hgr)
      | ((with_reducible refine gate_dst (N := 4) rfl ?_); refine wpList_load_row rfl _ _ rfl g1 rfl _ _ (0, 0) _ hg1 Tryd.underlying27 rfl rec_size ?_)
      | (go_at_call 46; (with_reducible refine (refClone_calls r A c _ (hd.next HB) hl).mono ?_); rintro e W3 ⟨A3, c3, rfl, o3, hb⟩; have hgr := grown_of_below hb; replace o3 := own_mono o3 HB.size; replace hg1 := hg1.grown hgr (by simp); replace hg2 := hg2.grown hgr (by simp); replace HB := HB.grown hgr (by have := HB.size; omega) (by simp); replace hcg1 := hg1.cell; replace hfg1 := hg1.frozen; replace hcg2 := hg2.cell; replace hfg2 := hg2.frozen; clear hb hgr)
      | ((with_reducible refine gate_dst (N := 3) rfl ?_); refine ev_alloc rfl rfl _ rec_zero ?_; intro g3 W4 hg3 hsz hbn; have hgr := grown_of_below hbn; have ng1g3 : g1 ≠ g3 := (by have := hg1.lt; omega); have ng2g3 : g2 ≠ g3 := (by have := hg2.lt; omega); replace hg3 : Blk W4 g3 _ (Rec.zero.cells none 0) := hg3; have zg3 : w.heap.size ≤ g3 := (by have := HB.size; omega); replace hg1 := hg1.grown hgr (by simp); replace hg2 := hg2.grown hgr (by simp); replace o3 := o3.kept hgr (by cases Value.ownBlock _ <;> simp); replace HB := HB.grown hgr (by have := HB.size; omega) (by simp); have hcg3 := hg3.cell; have hfg3 := hg3.frozen; replace hcg1 := hg1.cell; replace hfg1 := hg1.frozen; replace hcg2 := hg2.cell; replace hfg2 := hg2.frozen; clear hsz hbn hgr)
      | ((with_reducible refine gate_store (p := 3) rfl ?_); refine ev_store_row (cs := r.cells A3 c3) rfl rfl rfl hg3 rfl rfl rec_size rfl (cells_one _ _ _) ?_; intro W5 hgn hgr; replace hg1 := hg1.grown hgr (by intro e; injection e with e; omega); replace hg2 := hg2.grown hgr (by intro e; injection e with e; omega); replace o3 := o3.kept hgr (.inr (own_blk_ne o3 hg3 (by decide))); replace HB := HB.grown hgr (by have := HB.size; omega) (by intro k e; injection e with e; omega); replace hg3 := hgn; replace hcg1 := hg1.cell; replace hfg1 := hg1.frozen; replace hcg2 := hg2.cell; replace hfg2 := hg2.frozen; replace hcg3 := hg3.cell; replace hfg3 := hg3.frozen; clear hgn hgr)
      | ((with_reducible refine gate_store (p := 6) rfl ?_); refine ev_store_cell rfl rfl rfl hg3 rfl (i := 0) (v := .int .i64 2) rfl rfl (by kernel_rfl) (by first | exact (show (0 : Nat) < 12 by decide) | exact (show (0 : Nat) < 16 by decide) | exact (show (0 : Nat) < 6 by decide)) ?_; intro W6 hgn hgr; replace hgn : Blk W6 g3 _ (({ r with V := 2 } : Rec).cells A3 c3) := hgn; replace hg1 := hg1.grown hgr (by intro e; injection e with e; omega); replace hg2 := hg2.grown hgr (by intro e; injection e with e; omega); replace o3 := o3.kept hgr (.inr (own_blk_ne o3 hg3 (by decide))); replace HB := HB.grown hgr (by have := HB.size; omega) (by intro k e; injection e with e; omega); replace hg3 := hgn; replace hcg1 := hg1.cell; replace hfg1 := hg1.frozen; replace hcg2 := hg2.cell; replace hfg2 := hg2.frozen; replace hcg3 := hg3.cell; replace hfg3 := hg3.frozen; clear hgn hgr)
      | ((with_reducible refine gate_store (p := 13) rfl ?_); refine ev_store_cell rfl rfl rfl hg3 rfl (i := 8) (v := .int .i64 r.Step) rfl rfl (by kernel_rfl) (by first | exact (show (8 : Nat) < 12 by decide) | exact (show (8 : Nat) < 16 by decide) | exact (show (8 : Nat) < 6 by decide)) ?_; intro W7 hgn hgr; replace hgn : Blk W7 g3 _ (({ r with V := 2, Count := r.Step } : Rec).cells A3 c3) := hgn; replace hg1 := hg1.grown hgr (by intro e; injection e with e; omega); replace hg2 := hg2.grown hgr (by intro e; injection e with e; omega); replace o3 := o3.kept hgr (.inr (own_blk_ne o3 hg3 (by decide))); replace HB := HB.grown hgr (by have := HB.size; omega) (by intro k e; injection e with e; omega); replace hg3 := hgn; replace hcg1 := hg1.cell; replace hfg1 := hg1.frozen; replace hcg2 := hg2.cell; replace hfg2 := hg2.frozen; replace hcg3 := hg3.cell; replace hfg3 := hg3.frozen; clear hgn hgr; have cv := conv_bytes (hd.next HB) c)
      | ((with_reducible refine gate_store (p := 17) rfl ?_); refine ev_store_cell rfl rfl rfl hg3 rfl (i := 10) (v := .string ⟨r.Data.toArray⟩) rfl rfl (by kernel_rfl) (by first | exact (show (10 : Nat) < 12 by decide) | exact (show (10 : Nat) < 16 by decide) | exact (show (10 : Nat) < 6 by decide)) ?_; intro W8 hgn hgr; replace hgn : Blk W8 g3 _ (({ r with V := 2, Count := r.Step, Name := ⟨r.Data.toArray⟩ } : Rec).cells A3 c3) := hgn; replace hg1 := hg1.grown hgr (by intro e; injection e with e; omega); replace hg2 := hg2.grown hgr (by intro e; injection e with e; omega); replace o3 := o3.kept hgr (.inr (own_blk_ne o3 hg3 (by decide))); replace HB := HB.grown hgr (by have := HB.size; omega) (by intro k e; injection e with e; omega); replace hg3 := hgn; replace hcg1 := hg1.cell; replace hfg1 := hg1.frozen; replace hcg2 := hg2.cell; replace hfg2 := hg2.frozen; replace hcg3 := hg3.cell; replace hfg3 := hg3.frozen; clear hgn hgr)
      | ((with_reducible refine gate_store (p := 18) rfl ?_); refine ev_store_cell rfl rfl rfl hg3 rfl (i := 3) (v := .int .i64 0) rfl rfl (by kernel_rfl) (by first | exact (show (3 : Nat) < 12 by decide) | exact (show (3 : Nat) < 16 by decide) | exact (show (3 : Nat) < 6 by decide)) ?_; intro W9 hgn hgr; replace hgn : Blk W9 g3 _ (({ r with V := 2, Count := r.Step, Name := ⟨r.Data.toArray⟩, Step := 0 } : Rec).cells A3 c3) := hgn; replace hg1 := hg1.grown hgr (by intro e; injection e with e; omega); replace hg2 := hg2.grown hgr (by intro e; injection e with e; omega); replace o3 := o3.kept hgr (.inr (own_blk_ne o3 hg3 (by decide))); replace HB := HB.grown hgr (by have := HB.size; omega) (by intro k e; injection e with e; omega); replace hg3 := hgn; replace hcg1 := hg1.cell; replace hfg1 := hg1.frozen; replace hcg2 := hg2.cell; replace hfg2 := hg2.frozen; replace hcg3 := hg3.cell; replace hfg3 := hg3.frozen; clear hgn hgr)
      | ((with_reducible refine gate_store (p := 19) rfl ?_); refine ev_store_cell rfl rfl rfl hg3 rfl (i := 11) (v := .slice none 0 0) rfl rfl (by kernel_rfl) (by first | exact (show (11 : Nat) < 12 by decide) | exact (show (11 : Nat) < 16 by decide) | exact (show (11 : Nat) < 6 by decide)) ?_; intro W10 hgn hgr; replace hgn : Blk W10 g3 _ (({ r with V := 2, Count := r.Step, Name := ⟨r.Data.toArray⟩, Step := 0, Data := [] } : Rec).cells none 0) := hgn; replace hg1 := hg1.grown hgr (by intro e; injection e with e; omega); replace hg2 := hg2.grown hgr (by intro e; injection e with e; omega); replace o3 := o3.kept hgr (.inr (own_blk_ne o3 hg3 (by decide))); replace HB := HB.grown hgr (by have := HB.size; omega) (by intro k e; injection e with e; omega); replace hg3 := hgn; replace hcg1 := hg1.cell; replace hfg1 := hg1.frozen; replace hcg2 := hg2.cell; replace hfg2 := hg2.frozen; replace hcg3 := hg3.cell; replace hfg3 := hg3.frozen; clear hgn hgr)
      | ((with_reducible refine gate_dst (N := 27) rfl ?_); refine wpList_load_row rfl _ _ rfl g3 rfl _ _ (0, 0) _ hg3 Tryd.underlying27 rfl rec_size ?_)
      | ((with_reducible refine gate_store (p := 2) rfl ?_); refine ev_store_row (cs := ({ r with V := 2, Count := r.Step, Name := ⟨r.Data.toArray⟩, Step := 0, Data := [] } : Rec).cells none 0) rfl rfl rfl hg2 rfl rfl rec_size rfl (cells_one _ _ _) ?_; intro W11 hgn hgr; replace hg1 := hg1.grown hgr (by intro e; injection e with e; omega); replace hg3 := hg3.grown hgr (by intro e; injection e with e; omega); replace o3 := o3.kept hgr (.inr (own_blk_ne o3 hg2 (by decide))); replace HB := HB.grown hgr (by have := HB.size; omega) (by intro k e; injection e with e; omega); replace hg2 := hgn; replace hcg1 := hg1.cell; replace hfg1 := hg1.frozen; replace hcg2 := hg2.cell; replace hfg2 := hg2.frozen; replace hcg3 := hg3.cell; replace hfg3 := hg3.frozen; clear hgn hgr))
    refine bodyPost_ret (results_cell_row rfl _ _ g2 _ _ (0, 0) _ rfl hg2 Tryd.underlying27 rfl rec_size) rfl ?_
    exact ⟨none, 0, rfl, RU.nil, HB⟩
  have t1 := int_beq_false k1
  by_cases k2 : r.Kind = 2 ∨ r.Kind = 5
  · have e : fillR r = { r with Try := 1 } := by unfold fillR; rw [if_neg k1, if_pos k2]
    rw [e]
    clear e
    have key : ∀ b2 b5 : Bool, (r.Kind == 2) = b2 → (r.Kind == 5) = b5 → (b2 || b5) = true → Calls Tryd.prog 65 #[.agg (r.cells A c)] w fun e w' => ∃ A' c', e = .returned (.agg (({ { r with Try := 1 } with V := 2 } : Rec).cells A' c')) ∧ RU w' A' ({ r with Try := 1 } : Rec).Data ∧ Below w.heap.size w w' := by
      intro b2 b5 t2 t3 hor
      clear k1 k2
      cases b2 <;> cases b5
      all_goals first
        | (exact absurd hor (by decide))
        | skip
      all_goals
        clear hor
        go_enter Tryd.func65, Tryd.ntmps65
        go_wp2_with (first
          | ((with_reducible refine gate_dst (N := 1) rfl ?_); refine ev_box rfl rfl (r.cells A c) rfl ?_; intro g1 W1 hg1 hsz hbn; have hgr := grown_of_below hbn; have zg1 : w.heap.size ≤ g1 := (by have := HB.size; omega); replace HB := HB.grown hgr (by have := HB.size; omega) (by simp); have hcg1 := hg1.cell; have hfg1 := hg1.frozen; clear hsz hbn hgr)
          | ((with_reducible refine gate_dst (N := 2) rfl ?_); refine ev_alloc rfl rfl _ rec_zero ?_; intro g2 W2 hg2 hsz hbn; have hgr := grown_of_below hbn; have ng1g2 : g1 ≠ g2 := (by have := hg1.lt; omega); replace hg2 : Blk W2 g2 _ (Rec.zero.cells none 0) := hg2; have zg2 : w.heap.size ≤ g2 := (by have := HB.size; omega); replace hg1 := hg1.grown hgr (by simp); replace HB := HB.grown hgr (by have := HB.size; omega) (by simp); have hcg2 := hg2.cell; have hfg2 := hg2.frozen; replace hcg1 := hg1.cell; replace hfg1 := hg1.frozen; clear hsz hbn hgr)
          | ((with_reducible refine gate_dst (N := 4) rfl ?_); refine wpList_load_row rfl _ _ rfl g1 rfl _ _ (0, 0) _ hg1 Tryd.underlying27 rfl rec_size ?_)
          | (go_at_call 46; (with_reducible refine (refClone_calls r A c _ (hd.next HB) hl).mono ?_); rintro e W3 ⟨A3, c3, rfl, o3, hb⟩; have hgr := grown_of_below hb; replace o3 := own_mono o3 HB.size; replace hg1 := hg1.grown hgr (by simp); replace hg2 := hg2.grown hgr (by simp); replace HB := HB.grown hgr (by have := HB.size; omega) (by simp); replace hcg1 := hg1.cell; replace hfg1 := hg1.frozen; replace hcg2 := hg2.cell; replace hfg2 := hg2.frozen; clear hb hgr)
          | ((with_reducible refine gate_dst (N := 3) rfl ?_); refine ev_alloc rfl rfl _ rec_zero ?_; intro g3 W4 hg3 hsz hbn; have hgr := grown_of_below hbn; have ng1g3 : g1 ≠ g3 := (by have := hg1.lt; omega); have ng2g3 : g2 ≠ g3 := (by have := hg2.lt; omega); replace hg3 : Blk W4 g3 _ (Rec.zero.cells none 0) := hg3; have zg3 : w.heap.size ≤ g3 := (by have := HB.size; omega); replace hg1 := hg1.grown hgr (by simp); replace hg2 := hg2.grown hgr (by simp); replace o3 := o3.kept hgr (by cases Value.ownBlock _ <;> simp); replace HB := HB.grown hgr (by have := HB.size; omega) (by simp); have hcg3 := hg3.cell; have hfg3 := hg3.frozen; replace hcg1 := hg1.cell; replace hfg1 := hg1.frozen; replace hcg2 := hg2.cell; replace hfg2 := hg2.frozen; clear hsz hbn hgr)
          | ((with_reducible refine gate_store (p := 3) rfl ?_); refine ev_store_row (cs := r.cells A3 c3) rfl rfl rfl hg3 rfl rfl rec_size rfl (cells_one _ _ _) ?_; intro W5 hgn hgr; replace hg1 := hg1.grown hgr (by intro e; injection e with e; omega); replace hg2 := hg2.grown hgr (by intro e; injection e with e; omega); replace o3 := o3.kept hgr (.inr (own_blk_ne o3 hg3 (by decide))); replace HB := HB.grown hgr (by have := HB.size; omega) (by intro k e; injection e with e; omega); replace hg3 := hgn; replace hcg1 := hg1.cell; replace hfg1 := hg1.frozen; replace hcg2 := hg2.cell; replace hfg2 := hg2.frozen; replace hcg3 := hg3.cell; replace hfg3 := hg3.frozen; clear hgn hgr)
          | ((with_reducible refine gate_store (p := 6) rfl ?_); refine ev_store_cell rfl rfl rfl hg3 rfl (i := 0) (v := .int .i64 2) rfl rfl (by kernel_rfl) (by first | exact (show (0 : Nat) < 12 by decide) | exact (show (0 : Nat) < 16 by decide) | exact (show (0 : Nat) < 6 by decide)) ?_; intro W6 hgn hgr; replace hgn : Blk W6 g3 _ (({ r with V := 2 } : Rec).cells A3 c3) := hgn; replace hg1 := hg1.grown hgr (by intro e; injection e with e; omega); replace hg2 := hg2.grown hgr (by intro e; injection e with e; omega); replace o3 := o3.kept hgr (.inr (own_blk_ne o3 hg3 (by decide))); replace HB := HB.grown hgr (by have := HB.size; omega) (by intro k e; injection e with e; omega); replace hg3 := hgn; replace hcg1 := hg1.cell; replace hfg1 := hg1.frozen; replace hcg2 := hg2.cell; replace hfg2 := hg2.frozen; replace hcg3 := hg3.cell; replace hfg3 := hg3.frozen; clear hgn hgr)
          | ((with_reducible refine gate_store (p := 23) rfl ?_); refine ev_store_cell rfl rfl rfl hg3 rfl (i := 4) (v := .int .i64 1) rfl rfl (by kernel_rfl) (by first | exact (show (4 : Nat) < 12 by decide) | exact (show (4 : Nat) < 16 by decide) | exact (show (4 : Nat) < 6 by decide)) ?_; intro W7 hgn hgr; replace hgn : Blk W7 g3 _ (({ r with V := 2, Try := 1 } : Rec).cells A3 c3) := hgn; replace hg1 := hg1.grown hgr (by intro e; injection e with e; omega); replace hg2 := hg2.grown hgr (by intro e; injection e with e; omega); replace o3 := o3.kept hgr (.inr (own_blk_ne o3 hg3 (by decide))); replace HB := HB.grown hgr (by have := HB.size; omega) (by intro k e; injection e with e; omega); replace hg3 := hgn; replace hcg1 := hg1.cell; replace hfg1 := hg1.frozen; replace hcg2 := hg2.cell; replace hfg2 := hg2.frozen; replace hcg3 := hg3.cell; replace hfg3 := hg3.frozen; clear hgn hgr)
          | ((with_reducible refine gate_dst (N := 27) rfl ?_); refine wpList_load_row rfl _ _ rfl g3 rfl _ _ (0, 0) _ hg3 Tryd.underlying27 rfl rec_size ?_)
          | ((with_reducible refine gate_store (p := 2) rfl ?_); refine ev_store_row (cs := ({ r with V := 2, Try := 1 } : Rec).cells A3 c3) rfl rfl rfl hg2 rfl rfl rec_size rfl (cells_one _ _ _) ?_; intro W8 hgn hgr; replace hg1 := hg1.grown hgr (by intro e; injection e with e; omega); replace hg3 := hg3.grown hgr (by intro e; injection e with e; omega); replace o3 := o3.kept hgr (.inr (own_blk_ne o3 hg2 (by decide))); replace HB := HB.grown hgr (by have := HB.size; omega) (by intro k e; injection e with e; omega); replace hg2 := hgn; replace hcg1 := hg1.cell; replace hfg1 := hg1.frozen; replace hcg2 := hg2.cell; replace hfg2 := hg2.frozen; replace hcg3 := hg3.cell; replace hfg3 := hg3.frozen; clear hgn hgr))
        refine bodyPost_ret (results_cell_row rfl _ _ g2 _ _ (0, 0) _ rfl hg2 Tryd.underlying27 rfl rec_size) rfl ?_
        exact ⟨A3, c3, rfl, RU.of_own o3, HB⟩
    exact key _ _ rfl rfl (by rcases k2 with h | h <;> simp [h])
  have t2 : (r.Kind == 2) = false := int_beq_false (by omega)
  have t3 : (r.Kind == 5) = false := int_beq_false (by omega)
  by_cases k4 : r.Kind = 4
  · have e : fillR r = { r with Last := 1 } := by unfold fillR; rw [if_neg k1, if_neg k2, if_pos k4]
    rw [e]
    clear e
    have t4 := int_beq_true k4
    clear k1 k2 k4
    go_enter Tryd.func65, Tryd.ntmps65
    go_wp2_with (first
      | ((with_reducible refine gate_dst (N := 1) rfl ?_); refine ev_box rfl rfl (r.cells A c) rfl ?_; intro g1 W1 hg1 hsz hbn; have hgr := grown_of_below hbn; have zg1 : w.heap.size ≤ g1 := (by have := HB.size; omega); replace HB := HB.grown hgr (by have := HB.size; omega) (by simp); have hcg1 := hg1.cell; have hfg1 := hg1.frozen; clear hsz hbn hgr)
      | ((with_reducible refine gate_dst (N := 2) rfl ?_); refine ev_alloc rfl rfl _ rec_zero ?_; intro g2 W2 hg2 hsz hbn; have hgr := grown_of_below hbn; have ng1g2 : g1 ≠ g2 := (by have := hg1.lt; omega); replace hg2 : Blk W2 g2 _ (Rec.zero.cells none 0) := hg2; have zg2 : w.heap.size ≤ g2 := (by have := HB.size; omega); replace hg1 := hg1.grown hgr (by simp); replace HB := HB.grown hgr (by have := HB.size; omega) (by simp); have hcg2 := hg2.cell; have hfg2 := hg2.frozen; replace hcg1 := hg1.cell; replace hfg1 := hg1.frozen; clear hsz hbn hgr)
      | ((with_reducible refine gate_dst (N := 4) rfl ?_); refine wpList_load_row rfl _ _ rfl g1 rfl _ _ (0, 0) _ hg1 Tryd.underlying27 rfl rec_size ?_)
      | (go_at_call 46; (with_reducible refine (refClone_calls r A c _ (hd.next HB) hl).mono ?_); rintro e W3 ⟨A3, c3, rfl, o3, hb⟩; have hgr := grown_of_below hb; replace o3 := own_mono o3 HB.size; replace hg1 := hg1.grown hgr (by simp); replace hg2 := hg2.grown hgr (by simp); replace HB := HB.grown hgr (by have := HB.size; omega) (by simp); replace hcg1 := hg1.cell; replace hfg1 := hg1.frozen; replace hcg2 := hg2.cell; replace hfg2 := hg2.frozen; clear hb hgr)
      | ((with_reducible refine gate_dst (N := 3) rfl ?_); refine ev_alloc rfl rfl _ rec_zero ?_; intro g3 W4 hg3 hsz hbn; have hgr := grown_of_below hbn; have ng1g3 : g1 ≠ g3 := (by have := hg1.lt; omega); have ng2g3 : g2 ≠ g3 := (by have := hg2.lt; omega); replace hg3 : Blk W4 g3 _ (Rec.zero.cells none 0) := hg3; have zg3 : w.heap.size ≤ g3 := (by have := HB.size; omega); replace hg1 := hg1.grown hgr (by simp); replace hg2 := hg2.grown hgr (by simp); replace o3 := o3.kept hgr (by cases Value.ownBlock _ <;> simp); replace HB := HB.grown hgr (by have := HB.size; omega) (by simp); have hcg3 := hg3.cell; have hfg3 := hg3.frozen; replace hcg1 := hg1.cell; replace hfg1 := hg1.frozen; replace hcg2 := hg2.cell; replace hfg2 := hg2.frozen; clear hsz hbn hgr)
      | ((with_reducible refine gate_store (p := 3) rfl ?_); refine ev_store_row (cs := r.cells A3 c3) rfl rfl rfl hg3 rfl rfl rec_size rfl (cells_one _ _ _) ?_; intro W5 hgn hgr; replace hg1 := hg1.grown hgr (by intro e; injection e with e; omega); replace hg2 := hg2.grown hgr (by intro e; injection e with e; omega); replace o3 := o3.kept hgr (.inr (own_blk_ne o3 hg3 (by decide))); replace HB := HB.grown hgr (by have := HB.size; omega) (by intro k e; injection e with e; omega); replace hg3 := hgn; replace hcg1 := hg1.cell; replace hfg1 := hg1.frozen; replace hcg2 := hg2.cell; replace hfg2 := hg2.frozen; replace hcg3 := hg3.cell; replace hfg3 := hg3.frozen; clear hgn hgr)
      | ((with_reducible refine gate_store (p := 6) rfl ?_); refine ev_store_cell rfl rfl rfl hg3 rfl (i := 0) (v := .int .i64 2) rfl rfl (by kernel_rfl) (by first | exact (show (0 : Nat) < 12 by decide) | exact (show (0 : Nat) < 16 by decide) | exact (show (0 : Nat) < 6 by decide)) ?_; intro W6 hgn hgr; replace hgn : Blk W6 g3 _ (({ r with V := 2 } : Rec).cells A3 c3) := hgn; replace hg1 := hg1.grown hgr (by intro e; injection e with e; omega); replace hg2 := hg2.grown hgr (by intro e; injection e with e; omega); replace o3 := o3.kept hgr (.inr (own_blk_ne o3 hg3 (by decide))); replace HB := HB.grown hgr (by have := HB.size; omega) (by intro k e; injection e with e; omega); replace hg3 := hgn; replace hcg1 := hg1.cell; replace hfg1 := hg1.frozen; replace hcg2 := hg2.cell; replace hfg2 := hg2.frozen; replace hcg3 := hg3.cell; replace hfg3 := hg3.frozen; clear hgn hgr)
      | ((with_reducible refine gate_store (p := 26) rfl ?_); refine ev_store_cell rfl rfl rfl hg3 rfl (i := 6) (v := .int .i64 1) rfl rfl (by kernel_rfl) (by first | exact (show (6 : Nat) < 12 by decide) | exact (show (6 : Nat) < 16 by decide) | exact (show (6 : Nat) < 6 by decide)) ?_; intro W7 hgn hgr; replace hgn : Blk W7 g3 _ (({ r with V := 2, Last := 1 } : Rec).cells A3 c3) := hgn; replace hg1 := hg1.grown hgr (by intro e; injection e with e; omega); replace hg2 := hg2.grown hgr (by intro e; injection e with e; omega); replace o3 := o3.kept hgr (.inr (own_blk_ne o3 hg3 (by decide))); replace HB := HB.grown hgr (by have := HB.size; omega) (by intro k e; injection e with e; omega); replace hg3 := hgn; replace hcg1 := hg1.cell; replace hfg1 := hg1.frozen; replace hcg2 := hg2.cell; replace hfg2 := hg2.frozen; replace hcg3 := hg3.cell; replace hfg3 := hg3.frozen; clear hgn hgr)
      | ((with_reducible refine gate_dst (N := 27) rfl ?_); refine wpList_load_row rfl _ _ rfl g3 rfl _ _ (0, 0) _ hg3 Tryd.underlying27 rfl rec_size ?_)
      | ((with_reducible refine gate_store (p := 2) rfl ?_); refine ev_store_row (cs := ({ r with V := 2, Last := 1 } : Rec).cells A3 c3) rfl rfl rfl hg2 rfl rfl rec_size rfl (cells_one _ _ _) ?_; intro W8 hgn hgr; replace hg1 := hg1.grown hgr (by intro e; injection e with e; omega); replace hg3 := hg3.grown hgr (by intro e; injection e with e; omega); replace o3 := o3.kept hgr (.inr (own_blk_ne o3 hg2 (by decide))); replace HB := HB.grown hgr (by have := HB.size; omega) (by intro k e; injection e with e; omega); replace hg2 := hgn; replace hcg1 := hg1.cell; replace hfg1 := hg1.frozen; replace hcg2 := hg2.cell; replace hfg2 := hg2.frozen; replace hcg3 := hg3.cell; replace hfg3 := hg3.frozen; clear hgn hgr))
    refine bodyPost_ret (results_cell_row rfl _ _ g2 _ _ (0, 0) _ rfl hg2 Tryd.underlying27 rfl rec_size) rfl ?_
    exact ⟨A3, c3, rfl, RU.of_own o3, HB⟩
  · have e : fillR r = r := by unfold fillR; rw [if_neg k1, if_neg k2, if_neg k4]
    rw [e]
    clear e
    have t4 := int_beq_false k4
    clear k1 k2 k4
    go_enter Tryd.func65, Tryd.ntmps65
    go_wp2_with (first
      | ((with_reducible refine gate_dst (N := 1) rfl ?_); refine ev_box rfl rfl (r.cells A c) rfl ?_; intro g1 W1 hg1 hsz hbn; have hgr := grown_of_below hbn; have zg1 : w.heap.size ≤ g1 := (by have := HB.size; omega); replace HB := HB.grown hgr (by have := HB.size; omega) (by simp); have hcg1 := hg1.cell; have hfg1 := hg1.frozen; clear hsz hbn hgr)
      | ((with_reducible refine gate_dst (N := 2) rfl ?_); refine ev_alloc rfl rfl _ rec_zero ?_; intro g2 W2 hg2 hsz hbn; have hgr := grown_of_below hbn; have ng1g2 : g1 ≠ g2 := (by have := hg1.lt; omega); replace hg2 : Blk W2 g2 _ (Rec.zero.cells none 0) := hg2; have zg2 : w.heap.size ≤ g2 := (by have := HB.size; omega); replace hg1 := hg1.grown hgr (by simp); replace HB := HB.grown hgr (by have := HB.size; omega) (by simp); have hcg2 := hg2.cell; have hfg2 := hg2.frozen; replace hcg1 := hg1.cell; replace hfg1 := hg1.frozen; clear hsz hbn hgr)
      | ((with_reducible refine gate_dst (N := 4) rfl ?_); refine wpList_load_row rfl _ _ rfl g1 rfl _ _ (0, 0) _ hg1 Tryd.underlying27 rfl rec_size ?_)
      | (go_at_call 46; (with_reducible refine (refClone_calls r A c _ (hd.next HB) hl).mono ?_); rintro e W3 ⟨A3, c3, rfl, o3, hb⟩; have hgr := grown_of_below hb; replace o3 := own_mono o3 HB.size; replace hg1 := hg1.grown hgr (by simp); replace hg2 := hg2.grown hgr (by simp); replace HB := HB.grown hgr (by have := HB.size; omega) (by simp); replace hcg1 := hg1.cell; replace hfg1 := hg1.frozen; replace hcg2 := hg2.cell; replace hfg2 := hg2.frozen; clear hb hgr)
      | ((with_reducible refine gate_dst (N := 3) rfl ?_); refine ev_alloc rfl rfl _ rec_zero ?_; intro g3 W4 hg3 hsz hbn; have hgr := grown_of_below hbn; have ng1g3 : g1 ≠ g3 := (by have := hg1.lt; omega); have ng2g3 : g2 ≠ g3 := (by have := hg2.lt; omega); replace hg3 : Blk W4 g3 _ (Rec.zero.cells none 0) := hg3; have zg3 : w.heap.size ≤ g3 := (by have := HB.size; omega); replace hg1 := hg1.grown hgr (by simp); replace hg2 := hg2.grown hgr (by simp); replace o3 := o3.kept hgr (by cases Value.ownBlock _ <;> simp); replace HB := HB.grown hgr (by have := HB.size; omega) (by simp); have hcg3 := hg3.cell; have hfg3 := hg3.frozen; replace hcg1 := hg1.cell; replace hfg1 := hg1.frozen; replace hcg2 := hg2.cell; replace hfg2 := hg2.frozen; clear hsz hbn hgr)
      | ((with_reducible refine gate_store (p := 3) rfl ?_); refine ev_store_row (cs := r.cells A3 c3) rfl rfl rfl hg3 rfl rfl rec_size rfl (cells_one _ _ _) ?_; intro W5 hgn hgr; replace hg1 := hg1.grown hgr (by intro e; injection e with e; omega); replace hg2 := hg2.grown hgr (by intro e; injection e with e; omega); replace o3 := o3.kept hgr (.inr (own_blk_ne o3 hg3 (by decide))); replace HB := HB.grown hgr (by have := HB.size; omega) (by intro k e; injection e with e; omega); replace hg3 := hgn; replace hcg1 := hg1.cell; replace hfg1 := hg1.frozen; replace hcg2 := hg2.cell; replace hfg2 := hg2.frozen; replace hcg3 := hg3.cell; replace hfg3 := hg3.frozen; clear hgn hgr)
      | ((with_reducible refine gate_store (p := 6) rfl ?_); refine ev_store_cell rfl rfl rfl hg3 rfl (i := 0) (v := .int .i64 2) rfl rfl (by kernel_rfl) (by first | exact (show (0 : Nat) < 12 by decide) | exact (show (0 : Nat) < 16 by decide) | exact (show (0 : Nat) < 6 by decide)) ?_; intro W6 hgn hgr; replace hgn : Blk W6 g3 _ (({ r with V := 2 } : Rec).cells A3 c3) := hgn; replace hg1 := hg1.grown hgr (by intro e; injection e with e; omega); replace hg2 := hg2.grown hgr (by intro e; injection e with e; omega); replace o3 := o3.kept hgr (.inr (own_blk_ne o3 hg3 (by decide))); replace HB := HB.grown hgr (by have := HB.size; omega) (by intro k e; injection e with e; omega); replace hg3 := hgn; replace hcg1 := hg1.cell; replace hfg1 := hg1.frozen; replace hcg2 := hg2.cell; replace hfg2 := hg2.frozen; replace hcg3 := hg3.cell; replace hfg3 := hg3.frozen; clear hgn hgr)
      | ((with_reducible refine gate_dst (N := 27) rfl ?_); refine wpList_load_row rfl _ _ rfl g3 rfl _ _ (0, 0) _ hg3 Tryd.underlying27 rfl rec_size ?_)
      | ((with_reducible refine gate_store (p := 2) rfl ?_); refine ev_store_row (cs := ({ r with V := 2 } : Rec).cells A3 c3) rfl rfl rfl hg2 rfl rfl rec_size rfl (cells_one _ _ _) ?_; intro W7 hgn hgr; replace hg1 := hg1.grown hgr (by intro e; injection e with e; omega); replace hg3 := hg3.grown hgr (by intro e; injection e with e; omega); replace o3 := o3.kept hgr (.inr (own_blk_ne o3 hg2 (by decide))); replace HB := HB.grown hgr (by have := HB.size; omega) (by intro k e; injection e with e; omega); replace hg2 := hgn; replace hcg1 := hg1.cell; replace hfg1 := hg1.frozen; replace hcg2 := hg2.cell; replace hfg2 := hg2.frozen; replace hcg3 := hg3.cell; replace hfg3 := hg3.frozen; clear hgn hgr))
    refine bodyPost_ret (results_cell_row rfl _ _ g2 _ _ (0, 0) _ rfl hg2 Tryd.underlying27 rfl rec_size) rfl ?_
    exact ⟨A3, c3, rfl, RU.of_own o3, HB⟩

/-- What a way up or down answers. -/
def MoveSaid (P : Program) (f : Nat) (r' : Rec) (er : Int) (r : Rec) (A : Option Addr) (c : Nat) (to : Int) (w : World) : Prop :=
  Calls P f #[.agg (r.cells A c), .int .i64 to] w fun e w' => ∃ A' c', e = .returned (.tuple #[.agg (r'.cells A' c'), .int .i64 er]) ∧ RU w' A' r'.Data ∧ Below w.heap.size w w'
theorem known_range {to : Int} : known to = true ↔ 1 ≤ to ∧ to ≤ 3 := by unfold known; simp
set_option maxHeartbeats 2000000 in
set_option maxRecDepth 100000 in
theorem refUp_calls (r : Rec) (A : Option Addr) (c : Nat) (to : Int) (hf : r.Fits) (hz : r.Name.size ≤ 1099511627776) (w : World) (hR : RTabs w) (hd : RB w A r.Data) :
    MoveSaid Tryd.prog 39 (upR r to) (upE r to) r A c to w := by
  have HB := Below.refl w.heap.size w
  have HR := Lib.hid hR
  have hl := hf.data
  have cc := fun w => refCheck_calls r A c hz w
  unfold MoveSaid
  by_cases hc : r.chk = 0
  · rw [hc] at cc
    have Cc := Lib.hid cc
    by_cases hb1 : to < 1
    · have e1 : upE r to = 3 := by unfold upE; rw [if_neg (by simp [hc]), if_pos (by rw [known_range]; omega)]
      have e2 : upR r to = Rec.zero := by unfold upR; rw [e1]; rfl
      rw [e1, e2]
      have t1 : decide (to < 1) = true := decide_eq_true hb1
      clear e1 e2 cc hc hb1 hR
      go_enter Tryd.func39, Tryd.ntmps39
      go_wp2_with (first
        | ((with_reducible refine gate_dst (N := 2) rfl ?_); refine ev_box rfl rfl (r.cells A c) rfl ?_; intro g2 W1 hg2 hsz hbn; have hgr := grown_of_below hbn; have zg2 : w.heap.size ≤ g2 := (by have := HB.size; omega); replace HB := HB.grown hgr (by have := HB.size; omega) (by simp); have hcg2 := hg2.cell; have hfg2 := hg2.frozen; clear hsz hbn hgr)
        | ((with_reducible refine gate_dst (N := 4) rfl ?_); refine ev_alloc rfl rfl _ rec_zero ?_; intro g4 W2 hg4 hsz hbn; have hgr := grown_of_below hbn; have ng2g4 : g2 ≠ g4 := (by have := hg2.lt; omega); replace hg4 : Blk W2 g4 _ (Rec.zero.cells none 0) := hg4; have zg4 : w.heap.size ≤ g4 := (by have := HB.size; omega); replace hg2 := hg2.grown hgr (by simp); replace HB := HB.grown hgr (by have := HB.size; omega) (by simp); have hcg4 := hg4.cell; have hfg4 := hg4.frozen; replace hcg2 := hg2.cell; replace hfg2 := hg2.frozen; clear hsz hbn hgr)
        | ((with_reducible refine gate_dst (N := 8) rfl ?_); refine wpList_load_row rfl _ _ rfl g2 rfl _ _ (0, 0) _ hg2 Tryd.underlying27 rfl rec_size ?_)
        | (go_at_call 55; (with_reducible refine (Cc.out _ (HR.out.next HB) (hd.next HB)).mono ?_); rintro e W3 ⟨rfl, hb⟩; have hgr := grown_of_below hb; replace hg2 := hg2.grown hgr (by simp); replace hg4 := hg4.grown hgr (by simp); replace HB := HB.grown hgr (by have := HB.size; omega) (by simp); replace hcg2 := hg2.cell; replace hfg2 := hg2.frozen; replace hcg4 := hg4.cell; replace hfg4 := hg4.frozen; clear hb hgr)
        | ((with_reducible refine gate_store (p := 4) rfl ?_); refine ev_store_row (cs := Rec.zero.cells none 0) rfl rfl rfl hg4 rfl rfl rec_size rfl (cells_one _ _ _) ?_; intro W4 hgn hgr; replace hg2 := hg2.grown hgr (by intro e; injection e with e; omega); replace HB := HB.grown hgr (by have := HB.size; omega) (by intro k e; injection e with e; omega); replace hg4 := hgn; replace hcg2 := hg2.cell; replace hfg2 := hg2.frozen; replace hcg4 := hg4.cell; replace hfg4 := hg4.frozen; clear hgn hgr))
      refine ret_row rfl hg4 rfl Tryd.underlying27 rfl rec_size rfl ?_
      exact ⟨none, 0, rfl, RU.nil, HB⟩
    have t1 : decide (to < 1) = false := decide_eq_false hb1
    by_cases hb3 : 3 < to
    · have e1 : upE r to = 3 := by unfold upE; rw [if_neg (by simp [hc]), if_pos (by rw [known_range]; omega)]
      have e2 : upR r to = Rec.zero := by unfold upR; rw [e1]; rfl
      rw [e1, e2]
      have t2 : decide (3 < to) = true := decide_eq_true hb3
      clear e1 e2 cc hc hb1 hb3 hR
      go_enter Tryd.func39, Tryd.ntmps39
      go_wp2_with (first
        | ((with_reducible refine gate_dst (N := 2) rfl ?_); refine ev_box rfl rfl (r.cells A c) rfl ?_; intro g2 W1 hg2 hsz hbn; have hgr := grown_of_below hbn; have zg2 : w.heap.size ≤ g2 := (by have := HB.size; omega); replace HB := HB.grown hgr (by have := HB.size; omega) (by simp); have hcg2 := hg2.cell; have hfg2 := hg2.frozen; clear hsz hbn hgr)
        | ((with_reducible refine gate_dst (N := 4) rfl ?_); refine ev_alloc rfl rfl _ rec_zero ?_; intro g4 W2 hg4 hsz hbn; have hgr := grown_of_below hbn; have ng2g4 : g2 ≠ g4 := (by have := hg2.lt; omega); replace hg4 : Blk W2 g4 _ (Rec.zero.cells none 0) := hg4; have zg4 : w.heap.size ≤ g4 := (by have := HB.size; omega); replace hg2 := hg2.grown hgr (by simp); replace HB := HB.grown hgr (by have := HB.size; omega) (by simp); have hcg4 := hg4.cell; have hfg4 := hg4.frozen; replace hcg2 := hg2.cell; replace hfg2 := hg2.frozen; clear hsz hbn hgr)
        | ((with_reducible refine gate_dst (N := 8) rfl ?_); refine wpList_load_row rfl _ _ rfl g2 rfl _ _ (0, 0) _ hg2 Tryd.underlying27 rfl rec_size ?_)
        | (go_at_call 55; (with_reducible refine (Cc.out _ (HR.out.next HB) (hd.next HB)).mono ?_); rintro e W3 ⟨rfl, hb⟩; have hgr := grown_of_below hb; replace hg2 := hg2.grown hgr (by simp); replace hg4 := hg4.grown hgr (by simp); replace HB := HB.grown hgr (by have := HB.size; omega) (by simp); replace hcg2 := hg2.cell; replace hfg2 := hg2.frozen; replace hcg4 := hg4.cell; replace hfg4 := hg4.frozen; clear hb hgr)
        | ((with_reducible refine gate_store (p := 4) rfl ?_); refine ev_store_row (cs := Rec.zero.cells none 0) rfl rfl rfl hg4 rfl rfl rec_size rfl (cells_one _ _ _) ?_; intro W4 hgn hgr; replace hg2 := hg2.grown hgr (by intro e; injection e with e; omega); replace HB := HB.grown hgr (by have := HB.size; omega) (by intro k e; injection e with e; omega); replace hg4 := hgn; replace hcg2 := hg2.cell; replace hfg2 := hg2.frozen; replace hcg4 := hg4.cell; replace hfg4 := hg4.frozen; clear hgn hgr))
      refine ret_row rfl hg4 rfl Tryd.underlying27 rfl rec_size rfl ?_
      exact ⟨none, 0, rfl, RU.nil, HB⟩
    have t2 : decide (3 < to) = false := decide_eq_false hb3
    have hk : known to = true := known_range.2 (by omega)
    by_cases hlt : to < r.V
    · have e1 : upE r to = 41 := by unfold upE; rw [if_neg (by simp [hc]), if_neg (by simp [hk]), if_pos hlt]
      have e2 : upR r to = Rec.zero := by unfold upR; rw [e1]; rfl
      rw [e1, e2]
      have t3 : decide (to < r.V) = true := decide_eq_true hlt
      clear e1 e2 cc hc hb1 hb3 hR hk hlt
      go_enter Tryd.func39, Tryd.ntmps39
      go_wp2_with (first
        | ((with_reducible refine gate_dst (N := 2) rfl ?_); refine ev_box rfl rfl (r.cells A c) rfl ?_; intro g2 W1 hg2 hsz hbn; have hgr := grown_of_below hbn; have zg2 : w.heap.size ≤ g2 := (by have := HB.size; omega); replace HB := HB.grown hgr (by have := HB.size; omega) (by simp); have hcg2 := hg2.cell; have hfg2 := hg2.frozen; clear hsz hbn hgr)
        | ((with_reducible refine gate_dst (N := 4) rfl ?_); refine ev_alloc rfl rfl _ rec_zero ?_; intro g4 W2 hg4 hsz hbn; have hgr := grown_of_below hbn; have ng2g4 : g2 ≠ g4 := (by have := hg2.lt; omega); replace hg4 : Blk W2 g4 _ (Rec.zero.cells none 0) := hg4; have zg4 : w.heap.size ≤ g4 := (by have := HB.size; omega); replace hg2 := hg2.grown hgr (by simp); replace HB := HB.grown hgr (by have := HB.size; omega) (by simp); have hcg4 := hg4.cell; have hfg4 := hg4.frozen; replace hcg2 := hg2.cell; replace hfg2 := hg2.frozen; clear hsz hbn hgr)
        | ((with_reducible refine gate_dst (N := 8) rfl ?_); refine wpList_load_row rfl _ _ rfl g2 rfl _ _ (0, 0) _ hg2 Tryd.underlying27 rfl rec_size ?_)
        | (go_at_call 55; (with_reducible refine (Cc.out _ (HR.out.next HB) (hd.next HB)).mono ?_); rintro e W3 ⟨rfl, hb⟩; have hgr := grown_of_below hb; replace hg2 := hg2.grown hgr (by simp); replace hg4 := hg4.grown hgr (by simp); replace HB := HB.grown hgr (by have := HB.size; omega) (by simp); replace hcg2 := hg2.cell; replace hfg2 := hg2.frozen; replace hcg4 := hg4.cell; replace hfg4 := hg4.frozen; clear hb hgr)
        | ((with_reducible refine gate_store (p := 4) rfl ?_); refine ev_store_row (cs := Rec.zero.cells none 0) rfl rfl rfl hg4 rfl rfl rec_size rfl (cells_one _ _ _) ?_; intro W4 hgn hgr; replace hg2 := hg2.grown hgr (by intro e; injection e with e; omega); replace HB := HB.grown hgr (by have := HB.size; omega) (by intro k e; injection e with e; omega); replace hg4 := hgn; replace hcg2 := hg2.cell; replace hfg2 := hg2.frozen; replace hcg4 := hg4.cell; replace hfg4 := hg4.frozen; clear hgn hgr))
      refine ret_row rfl hg4 rfl Tryd.underlying27 rfl rec_size rfl ?_
      exact ⟨none, 0, rfl, RU.nil, HB⟩
    have t3 : decide (to < r.V) = false := decide_eq_false hlt
    have e1 : upE r to = 0 := by unfold upE; rw [if_neg (by simp [hc]), if_neg (by simp [hk]), if_neg hlt]
    have e2 : upR r to = riseR r to := by unfold upR; rw [if_pos e1, rise_ok hc (by omega) (by omega)]
    rw [e1, e2]
    unfold riseR
    by_cases hr : r.V = 1 ∧ 1 < to
    · rw [if_pos hr]
      have t4 := int_beq_true hr.1
      have t5 : decide (1 < to) = true := decide_eq_true hr.2
      have cs := fun A c w => second_calls r A c hl w
      have ed : ({ fillR r with V := to } : Rec).Data = (fillR r).Data := rfl
      rw [ed]
      have rV : ∀ x y, ({ ({ fillR r with V := x } : Rec) with V := y } : Rec) = { fillR r with V := y } := fun _ _ => rfl
      generalize fillR r = f at cs rV ⊢
      have Cs := Lib.hid cs
      clear e1 e2 cc hc hb1 hb3 hR hk hlt hr cs ed
      go_enter Tryd.func39, Tryd.ntmps39
      go_wp2_with (first
        | ((with_reducible refine gate_dst (N := 2) rfl ?_); refine ev_box rfl rfl (r.cells A c) rfl ?_; intro g2 W1 hg2 hsz hbn; have hgr := grown_of_below hbn; have zg2 : w.heap.size ≤ g2 := (by have := HB.size; omega); replace HB := HB.grown hgr (by have := HB.size; omega) (by simp); have hcg2 := hg2.cell; have hfg2 := hg2.frozen; clear hsz hbn hgr)
        | ((with_reducible refine gate_dst (N := 4) rfl ?_); refine ev_alloc rfl rfl _ rec_zero ?_; intro g4 W2 hg4 hsz hbn; have hgr := grown_of_below hbn; have ng2g4 : g2 ≠ g4 := (by have := hg2.lt; omega); replace hg4 : Blk W2 g4 _ (Rec.zero.cells none 0) := hg4; have zg4 : w.heap.size ≤ g4 := (by have := HB.size; omega); replace hg2 := hg2.grown hgr (by simp); replace HB := HB.grown hgr (by have := HB.size; omega) (by simp); have hcg4 := hg4.cell; have hfg4 := hg4.frozen; replace hcg2 := hg2.cell; replace hfg2 := hg2.frozen; clear hsz hbn hgr)
        | ((with_reducible refine gate_dst (N := 8) rfl ?_); refine wpList_load_row rfl _ _ rfl g2 rfl _ _ (0, 0) _ hg2 Tryd.underlying27 rfl rec_size ?_)
        | (go_at_call 55; (with_reducible refine (Cc.out _ (HR.out.next HB) (hd.next HB)).mono ?_); rintro e W3 ⟨rfl, hb⟩; have hgr := grown_of_below hb; replace hg2 := hg2.grown hgr (by simp); replace hg4 := hg4.grown hgr (by simp); replace HB := HB.grown hgr (by have := HB.size; omega) (by simp); replace hcg2 := hg2.cell; replace hfg2 := hg2.frozen; replace hcg4 := hg4.cell; replace hfg4 := hg4.frozen; clear hb hgr)
        | ((with_reducible refine gate_dst (N := 26) rfl ?_); refine wpList_load_row rfl _ _ rfl g2 rfl _ _ (0, 0) _ hg2 Tryd.underlying27 rfl rec_size ?_)
        | (go_at_call 46; (with_reducible refine (refClone_calls r A c _ (hd.next HB) hl).mono ?_); rintro e W4 ⟨A3, c3, rfl, o3, hb⟩; have hgr := grown_of_below hb; replace o3 := own_mono o3 HB.size; replace hg2 := hg2.grown hgr (by simp); replace hg4 := hg4.grown hgr (by simp); replace HB := HB.grown hgr (by have := HB.size; omega) (by simp); replace hcg2 := hg2.cell; replace hfg2 := hg2.frozen; replace hcg4 := hg4.cell; replace hfg4 := hg4.frozen; clear hb hgr)
        | ((with_reducible refine gate_dst (N := 7) rfl ?_); refine ev_alloc rfl rfl _ rec_zero ?_; intro g7 W5 hg7 hsz hbn; have hgr := grown_of_below hbn; have ng2g7 : g2 ≠ g7 := (by have := hg2.lt; omega); have ng4g7 : g4 ≠ g7 := (by have := hg4.lt; omega); replace hg7 : Blk W5 g7 _ (Rec.zero.cells none 0) := hg7; have zg7 : w.heap.size ≤ g7 := (by have := HB.size; omega); replace hg2 := hg2.grown hgr (by simp); replace hg4 := hg4.grown hgr (by simp); replace o3 := o3.kept hgr (by cases Value.ownBlock _ <;> simp); replace HB := HB.grown hgr (by have := HB.size; omega) (by simp); have hcg7 := hg7.cell; have hfg7 := hg7.frozen; replace hcg2 := hg2.cell; replace hfg2 := hg2.frozen; replace hcg4 := hg4.cell; replace hfg4 := hg4.frozen; clear hsz hbn hgr)
        | ((with_reducible refine gate_store (p := 7) rfl ?_); refine ev_store_row (cs := r.cells A3 c3) rfl rfl rfl hg7 rfl rfl rec_size rfl (cells_one _ _ _) ?_; intro W6 hgn hgr; replace hg2 := hg2.grown hgr (by intro e; injection e with e; omega); replace hg4 := hg4.grown hgr (by intro e; injection e with e; omega); replace o3 := o3.kept hgr (.inr (own_blk_ne o3 hg7 (by decide))); replace HB := HB.grown hgr (by have := HB.size; omega) (by intro k e; injection e with e; omega); replace hg7 := hgn; replace hcg2 := hg2.cell; replace hfg2 := hg2.frozen; replace hcg4 := hg4.cell; replace hfg4 := hg4.frozen; replace hcg7 := hg7.cell; replace hfg7 := hg7.frozen; clear hgn hgr)
        | ((with_reducible refine gate_dst (N := 35) rfl ?_); refine wpList_load_row rfl _ _ rfl g7 rfl _ _ (0, 0) _ hg7 Tryd.underlying27 rfl rec_size ?_)
        | (go_at_call 65; (with_reducible refine (Cs.out _ _ _ (own_rb o3)).mono ?_); rintro e W7 ⟨A5, c5, rfl, hd5, hb⟩; have hgr := grown_of_below hb; replace hg2 := hg2.grown hgr (by simp); replace hg4 := hg4.grown hgr (by simp); replace hg7 := hg7.grown hgr (by simp); replace o3 := o3.kept hgr (by cases Value.ownBlock _ <;> simp); replace HB := HB.grown hgr (by have := HB.size; omega) (by simp); replace hcg2 := hg2.cell; replace hfg2 := hg2.frozen; replace hcg4 := hg4.cell; replace hfg4 := hg4.frozen; replace hcg7 := hg7.cell; replace hfg7 := hg7.frozen; clear hb hgr)
        | ((with_reducible refine gate_store (p := 7) rfl ?_); refine ev_store_row (cs := ({ f with V := 2 } : Rec).cells A5 c5) rfl rfl rfl hg7 rfl rfl rec_size rfl (cells_one _ _ _) ?_; intro W8 hgn hgr; replace hd5 := hd5.kept hgr (RU.ne_blk hd5 hg7 (by decide)); replace hg2 := hg2.grown hgr (by intro e; injection e with e; omega); replace hg4 := hg4.grown hgr (by intro e; injection e with e; omega); replace o3 := o3.kept hgr (.inr (own_blk_ne o3 hg7 (by decide))); replace HB := HB.grown hgr (by have := HB.size; omega) (by intro k e; injection e with e; omega); replace hg7 := hgn; replace hcg2 := hg2.cell; replace hfg2 := hg2.frozen; replace hcg4 := hg4.cell; replace hfg4 := hg4.frozen; replace hcg7 := hg7.cell; replace hfg7 := hg7.frozen; clear hgn hgr)
        | ((with_reducible refine gate_store (p := 38) rfl ?_); refine ev_store_cell rfl rfl rfl hg7 rfl (i := 0) (v := .int .i64 to) rfl rfl (by kernel_rfl) (by first | exact (show (0 : Nat) < 12 by decide) | exact (show (0 : Nat) < 16 by decide) | exact (show (0 : Nat) < 6 by decide)) ?_; intro W9 hgn hgr; replace hgn : Blk W9 g7 _ (({ f with V := to } : Rec).cells A5 c5) := hgn; replace hd5 := hd5.kept hgr (RU.ne_blk hd5 hg7 (by decide)); replace hg2 := hg2.grown hgr (by intro e; injection e with e; omega); replace hg4 := hg4.grown hgr (by intro e; injection e with e; omega); replace o3 := o3.kept hgr (.inr (own_blk_ne o3 hg7 (by decide))); replace HB := HB.grown hgr (by have := HB.size; omega) (by intro k e; injection e with e; omega); replace hg7 := hgn; replace hcg2 := hg2.cell; replace hfg2 := hg2.frozen; replace hcg4 := hg4.cell; replace hfg4 := hg4.frozen; replace hcg7 := hg7.cell; replace hfg7 := hg7.frozen; clear hgn hgr)
        | ((with_reducible refine gate_dst (N := 39) rfl ?_); refine wpList_load_row rfl _ _ rfl g7 rfl _ _ (0, 0) _ hg7 Tryd.underlying27 rfl rec_size ?_)
        | ((with_reducible refine gate_store (p := 4) rfl ?_); refine ev_store_row (cs := ({ f with V := to } : Rec).cells A5 c5) rfl rfl rfl hg4 rfl rfl rec_size rfl (cells_one _ _ _) ?_; intro W10 hgn hgr; replace hd5 := hd5.kept hgr (RU.ne_blk hd5 hg4 (by decide)); replace hg2 := hg2.grown hgr (by intro e; injection e with e; omega); replace hg7 := hg7.grown hgr (by intro e; injection e with e; omega); replace o3 := o3.kept hgr (.inr (own_blk_ne o3 hg4 (by decide))); replace HB := HB.grown hgr (by have := HB.size; omega) (by intro k e; injection e with e; omega); replace hg4 := hgn; replace hcg2 := hg2.cell; replace hfg2 := hg2.frozen; replace hcg4 := hg4.cell; replace hfg4 := hg4.frozen; replace hcg7 := hg7.cell; replace hfg7 := hg7.frozen; clear hgn hgr))
      refine ret_row rfl hg4 rfl Tryd.underlying27 rfl rec_size rfl ?_
      exact ⟨A5, c5, rfl, hd5, HB⟩
    · rw [if_neg hr]
      have key : ∀ b1 b2 : Bool, (r.V == 1) = b1 → decide (1 < to) = b2 → (b1 && b2) = false → Calls Tryd.prog 39 #[.agg (r.cells A c), .int .i64 to] w fun e w' => ∃ A' c', e = .returned (.tuple #[.agg (({ r with V := to } : Rec).cells A' c'), .int .i64 0]) ∧ RU w' A' ({ r with V := to } : Rec).Data ∧ Below w.heap.size w w' := by
        intro b1 b2 t4 t5 hor
        clear e1 e2 cc hc hb1 hb3 hR hk hlt hr
        cases b1 <;> cases b2
        all_goals first
          | (exact absurd hor (by decide))
          | skip
        all_goals
          clear hor
          go_enter Tryd.func39, Tryd.ntmps39
          go_wp2_with (first
            | ((with_reducible refine gate_dst (N := 2) rfl ?_); refine ev_box rfl rfl (r.cells A c) rfl ?_; intro g2 W1 hg2 hsz hbn; have hgr := grown_of_below hbn; have zg2 : w.heap.size ≤ g2 := (by have := HB.size; omega); replace HB := HB.grown hgr (by have := HB.size; omega) (by simp); have hcg2 := hg2.cell; have hfg2 := hg2.frozen; clear hsz hbn hgr)
            | ((with_reducible refine gate_dst (N := 4) rfl ?_); refine ev_alloc rfl rfl _ rec_zero ?_; intro g4 W2 hg4 hsz hbn; have hgr := grown_of_below hbn; have ng2g4 : g2 ≠ g4 := (by have := hg2.lt; omega); replace hg4 : Blk W2 g4 _ (Rec.zero.cells none 0) := hg4; have zg4 : w.heap.size ≤ g4 := (by have := HB.size; omega); replace hg2 := hg2.grown hgr (by simp); replace HB := HB.grown hgr (by have := HB.size; omega) (by simp); have hcg4 := hg4.cell; have hfg4 := hg4.frozen; replace hcg2 := hg2.cell; replace hfg2 := hg2.frozen; clear hsz hbn hgr)
            | ((with_reducible refine gate_dst (N := 8) rfl ?_); refine wpList_load_row rfl _ _ rfl g2 rfl _ _ (0, 0) _ hg2 Tryd.underlying27 rfl rec_size ?_)
            | (go_at_call 55; (with_reducible refine (Cc.out _ (HR.out.next HB) (hd.next HB)).mono ?_); rintro e W3 ⟨rfl, hb⟩; have hgr := grown_of_below hb; replace hg2 := hg2.grown hgr (by simp); replace hg4 := hg4.grown hgr (by simp); replace HB := HB.grown hgr (by have := HB.size; omega) (by simp); replace hcg2 := hg2.cell; replace hfg2 := hg2.frozen; replace hcg4 := hg4.cell; replace hfg4 := hg4.frozen; clear hb hgr)
            | ((with_reducible refine gate_dst (N := 26) rfl ?_); refine wpList_load_row rfl _ _ rfl g2 rfl _ _ (0, 0) _ hg2 Tryd.underlying27 rfl rec_size ?_)
            | (go_at_call 46; (with_reducible refine (refClone_calls r A c _ (hd.next HB) hl).mono ?_); rintro e W4 ⟨A3, c3, rfl, o3, hb⟩; have hgr := grown_of_below hb; replace o3 := own_mono o3 HB.size; replace hg2 := hg2.grown hgr (by simp); replace hg4 := hg4.grown hgr (by simp); replace HB := HB.grown hgr (by have := HB.size; omega) (by simp); replace hcg2 := hg2.cell; replace hfg2 := hg2.frozen; replace hcg4 := hg4.cell; replace hfg4 := hg4.frozen; clear hb hgr)
            | ((with_reducible refine gate_dst (N := 7) rfl ?_); refine ev_alloc rfl rfl _ rec_zero ?_; intro g7 W5 hg7 hsz hbn; have hgr := grown_of_below hbn; have ng2g7 : g2 ≠ g7 := (by have := hg2.lt; omega); have ng4g7 : g4 ≠ g7 := (by have := hg4.lt; omega); replace hg7 : Blk W5 g7 _ (Rec.zero.cells none 0) := hg7; have zg7 : w.heap.size ≤ g7 := (by have := HB.size; omega); replace hg2 := hg2.grown hgr (by simp); replace hg4 := hg4.grown hgr (by simp); replace o3 := o3.kept hgr (by cases Value.ownBlock _ <;> simp); replace HB := HB.grown hgr (by have := HB.size; omega) (by simp); have hcg7 := hg7.cell; have hfg7 := hg7.frozen; replace hcg2 := hg2.cell; replace hfg2 := hg2.frozen; replace hcg4 := hg4.cell; replace hfg4 := hg4.frozen; clear hsz hbn hgr)
            | ((with_reducible refine gate_store (p := 7) rfl ?_); refine ev_store_row (cs := r.cells A3 c3) rfl rfl rfl hg7 rfl rfl rec_size rfl (cells_one _ _ _) ?_; intro W6 hgn hgr; replace hg2 := hg2.grown hgr (by intro e; injection e with e; omega); replace hg4 := hg4.grown hgr (by intro e; injection e with e; omega); replace o3 := o3.kept hgr (.inr (own_blk_ne o3 hg7 (by decide))); replace HB := HB.grown hgr (by have := HB.size; omega) (by intro k e; injection e with e; omega); replace hg7 := hgn; replace hcg2 := hg2.cell; replace hfg2 := hg2.frozen; replace hcg4 := hg4.cell; replace hfg4 := hg4.frozen; replace hcg7 := hg7.cell; replace hfg7 := hg7.frozen; clear hgn hgr)
            | ((with_reducible refine gate_store (p := 38) rfl ?_); refine ev_store_cell rfl rfl rfl hg7 rfl (i := 0) (v := .int .i64 to) rfl rfl (by kernel_rfl) (by first | exact (show (0 : Nat) < 12 by decide) | exact (show (0 : Nat) < 16 by decide) | exact (show (0 : Nat) < 6 by decide)) ?_; intro W7 hgn hgr; replace hgn : Blk W7 g7 _ (({ r with V := to } : Rec).cells A3 c3) := hgn; replace hg2 := hg2.grown hgr (by intro e; injection e with e; omega); replace hg4 := hg4.grown hgr (by intro e; injection e with e; omega); replace o3 := o3.kept hgr (.inr (own_blk_ne o3 hg7 (by decide))); replace HB := HB.grown hgr (by have := HB.size; omega) (by intro k e; injection e with e; omega); replace hg7 := hgn; replace hcg2 := hg2.cell; replace hfg2 := hg2.frozen; replace hcg4 := hg4.cell; replace hfg4 := hg4.frozen; replace hcg7 := hg7.cell; replace hfg7 := hg7.frozen; clear hgn hgr)
            | ((with_reducible refine gate_dst (N := 39) rfl ?_); refine wpList_load_row rfl _ _ rfl g7 rfl _ _ (0, 0) _ hg7 Tryd.underlying27 rfl rec_size ?_)
            | ((with_reducible refine gate_store (p := 4) rfl ?_); refine ev_store_row (cs := ({ r with V := to } : Rec).cells A3 c3) rfl rfl rfl hg4 rfl rfl rec_size rfl (cells_one _ _ _) ?_; intro W8 hgn hgr; replace hg2 := hg2.grown hgr (by intro e; injection e with e; omega); replace hg7 := hg7.grown hgr (by intro e; injection e with e; omega); replace o3 := o3.kept hgr (.inr (own_blk_ne o3 hg4 (by decide))); replace HB := HB.grown hgr (by have := HB.size; omega) (by intro k e; injection e with e; omega); replace hg4 := hgn; replace hcg2 := hg2.cell; replace hfg2 := hg2.frozen; replace hcg4 := hg4.cell; replace hfg4 := hg4.frozen; replace hcg7 := hg7.cell; replace hfg7 := hg7.frozen; clear hgn hgr))
          refine ret_row rfl hg4 rfl Tryd.underlying27 rfl rec_size rfl ?_
          exact ⟨A3, c3, rfl, RU.of_own o3, HB⟩
      refine key _ _ rfl rfl ?_
      cases h1 : (r.V == 1) with
      | false => rfl
      | true =>
        have : ¬ 1 < to := fun h => hr ⟨by simpa using h1, h⟩
        simp [this]
  · have t1 := int_bne_true hc
    have e1 : upE r to = r.chk := by unfold upE; rw [if_pos hc]
    have e2 : upR r to = Rec.zero := by unfold upR; rw [e1, if_neg hc]
    rw [e1, e2]
    have Cc := Lib.hid cc
    clear hc e1 e2 cc hR
    go_enter Tryd.func39, Tryd.ntmps39
    go_wp2_with (first
      | ((with_reducible refine gate_dst (N := 2) rfl ?_); refine ev_box rfl rfl (r.cells A c) rfl ?_; intro g2 W1 hg2 hsz hbn; have hgr := grown_of_below hbn; have zg2 : w.heap.size ≤ g2 := (by have := HB.size; omega); replace HB := HB.grown hgr (by have := HB.size; omega) (by simp); have hcg2 := hg2.cell; have hfg2 := hg2.frozen; clear hsz hbn hgr)
      | ((with_reducible refine gate_dst (N := 4) rfl ?_); refine ev_alloc rfl rfl _ rec_zero ?_; intro g4 W2 hg4 hsz hbn; have hgr := grown_of_below hbn; have ng2g4 : g2 ≠ g4 := (by have := hg2.lt; omega); replace hg4 : Blk W2 g4 _ (Rec.zero.cells none 0) := hg4; have zg4 : w.heap.size ≤ g4 := (by have := HB.size; omega); replace hg2 := hg2.grown hgr (by simp); replace HB := HB.grown hgr (by have := HB.size; omega) (by simp); have hcg4 := hg4.cell; have hfg4 := hg4.frozen; replace hcg2 := hg2.cell; replace hfg2 := hg2.frozen; clear hsz hbn hgr)
      | ((with_reducible refine gate_dst (N := 8) rfl ?_); refine wpList_load_row rfl _ _ rfl g2 rfl _ _ (0, 0) _ hg2 Tryd.underlying27 rfl rec_size ?_)
      | (go_at_call 55; (with_reducible refine (Cc.out _ (HR.out.next HB) (hd.next HB)).mono ?_); rintro e W3 ⟨rfl, hb⟩; have hgr := grown_of_below hb; replace hg2 := hg2.grown hgr (by simp); replace hg4 := hg4.grown hgr (by simp); replace HB := HB.grown hgr (by have := HB.size; omega) (by simp); replace hcg2 := hg2.cell; replace hfg2 := hg2.frozen; replace hcg4 := hg4.cell; replace hfg4 := hg4.frozen; clear hb hgr)
      | ((with_reducible refine gate_store (p := 4) rfl ?_); refine ev_store_row (cs := Rec.zero.cells none 0) rfl rfl rfl hg4 rfl rfl rec_size rfl (cells_one _ _ _) ?_; intro W4 hgn hgr; replace hg2 := hg2.grown hgr (by intro e; injection e with e; omega); replace HB := HB.grown hgr (by have := HB.size; omega) (by intro k e; injection e with e; omega); replace hg4 := hgn; replace hcg2 := hg2.cell; replace hfg2 := hg2.frozen; replace hcg4 := hg4.cell; replace hfg4 := hg4.frozen; clear hgn hgr))
    refine ret_row rfl hg4 rfl Tryd.underlying27 rfl rec_size rfl ?_
    exact ⟨none, 0, rfl, RU.nil, HB⟩
end Go.Proofs.YtikodgaomhmbmaaDoor
namespace Go.Proofs.YtikodgaomhmbmaaDoor
open Go.RowKit
attribute [local go_sem] Rec.size_ Rec.g0 Rec.g1 Rec.g2 Rec.g3 Rec.g4 Rec.g5 Rec.g6 Rec.g7 Rec.g8 Rec.g9 Rec.g10 Rec.g11 Rec.fold

theorem u8_cell (b : UInt8) : u8s [b] = [.int .u8 (b.toNat : Int)] := rfl
/-- What a guess starts with. -/
def guess0 (r : Rec) (to : Int) : Rec := { Rec.zero with V := to, Kind := r.Kind, Saga := r.Saga, Step := r.Step }
theorem byte_at {w W : World} {ad : Addr} {l : List UInt8} {k : Nat} {b : UInt8} (hd : RB w (some ad) l) (hb : Below w.heap.size w W) (h : l[k]? = some b) : W.cell? (ad.add k) = some (.int .u8 b.toNat) := by
  obtain ⟨hk, e⟩ := List.getElem?_eq_some_iff.1 h
  obtain ⟨ad', e1, hc⟩ := (hd.next hb).get hk
  injection e1 with e1
  rw [e1, hc, e]
/-- What guess answers. -/
def GuessSaid (P : Program) (r' : Rec) (r : Rec) (A : Option Addr) (c : Nat) (to : Int) (w : World) : Prop :=
  Calls P 66 #[.agg (r.cells A c), .int .i64 to] w fun e w' => ∃ A' c', e = .returned (.agg (r'.cells A' c')) ∧ RU w' A' r'.Data ∧ Below w.heap.size w w'
set_option maxHeartbeats 1000000 in
set_option maxRecDepth 100000 in
theorem guessA_calls (r : Rec) (A : Option Addr) (c : Nat) (to : Int) (h1 : 1 < r.V) (h2 : to = 1) (h3 : r.Kind = 1) (w : World) :
    GuessSaid Tryd.prog { Rec.zero with V := to, Kind := r.Kind, Saga := r.Saga, Step := r.Count, Data := r.Name.data.toList } r A c to w := by
  have HB := Below.refl w.heap.size w
  have t1 : decide (1 < r.V) = true := decide_eq_true h1
  have t2 := int_beq_true h2
  have t3 := int_beq_true h3
  clear h1 h2 h3
  unfold GuessSaid
  go_enter Tryd.func66, Tryd.ntmps66
  go_wp2_with (first
    | ((with_reducible refine gate_dst (N := 2) rfl ?_); refine ev_box rfl rfl (r.cells A c) rfl ?_; intro g2 W1 hg2 hsz hbn; have hgr := grown_of_below hbn; have zg2 : w.heap.size ≤ g2 := (by have := HB.size; omega); replace HB := HB.grown hgr (by have := HB.size; omega) (by simp); have hcg2 := hg2.cell; have hfg2 := hg2.frozen; clear hsz hbn hgr)
    | ((with_reducible refine gate_dst (N := 4) rfl ?_); refine ev_alloc rfl rfl _ rec_zero ?_; intro g4 W2 hg4 hsz hbn; have hgr := grown_of_below hbn; have ng2g4 : g2 ≠ g4 := (by have := hg2.lt; omega); replace hg4 : Blk W2 g4 _ (Rec.zero.cells none 0) := hg4; have zg4 : w.heap.size ≤ g4 := (by have := HB.size; omega); replace hg2 := hg2.grown hgr (by simp); replace HB := HB.grown hgr (by have := HB.size; omega) (by simp); have hcg4 := hg4.cell; have hfg4 := hg4.frozen; replace hcg2 := hg2.cell; replace hfg2 := hg2.frozen; clear hsz hbn hgr)
    | ((with_reducible refine gate_dst (N := 5) rfl ?_); refine ev_alloc rfl rfl _ rec_zero ?_; intro g5 W3 hg5 hsz hbn; have hgr := grown_of_below hbn; have ng2g5 : g2 ≠ g5 := (by have := hg2.lt; omega); have ng4g5 : g4 ≠ g5 := (by have := hg4.lt; omega); replace hg5 : Blk W3 g5 _ (Rec.zero.cells none 0) := hg5; have zg5 : w.heap.size ≤ g5 := (by have := HB.size; omega); replace hg2 := hg2.grown hgr (by simp); replace hg4 := hg4.grown hgr (by simp); replace HB := HB.grown hgr (by have := HB.size; omega) (by simp); have hcg5 := hg5.cell; have hfg5 := hg5.frozen; replace hcg2 := hg2.cell; replace hfg2 := hg2.frozen; replace hcg4 := hg4.cell; replace hfg4 := hg4.frozen; clear hsz hbn hgr)
    | ((with_reducible refine gate_store (p := 5) rfl ?_); refine ev_store_row (cs := (guess0 r to).cells none 0) rfl rfl rfl hg5 rfl rfl rec_size rfl (cells_one _ _ _) ?_; intro W4 hgn hgr; replace hg2 := hg2.grown hgr (by intro e; injection e with e; omega); replace hg4 := hg4.grown hgr (by intro e; injection e with e; omega); replace HB := HB.grown hgr (by have := HB.size; omega) (by intro k e; injection e with e; omega); replace hg5 := hgn; replace hcg2 := hg2.cell; replace hfg2 := hg2.frozen; replace hcg4 := hg4.cell; replace hfg4 := hg4.frozen; replace hcg5 := hg5.cell; replace hfg5 := hg5.frozen; clear hgn hgr)
    | ((with_reducible refine gate_store (p := 29) rfl ?_); refine ev_store_cell rfl rfl rfl hg5 rfl (i := 3) (v := .int .i64 r.Count) rfl rfl (by kernel_rfl) (by first | exact (show (3 : Nat) < 12 by decide) | exact (show (3 : Nat) < 16 by decide) | exact (show (3 : Nat) < 6 by decide)) ?_; intro W5 hgn hgr; replace hgn : Blk W5 g5 _ (({ Rec.zero with V := to, Kind := r.Kind, Saga := r.Saga, Step := r.Count } : Rec).cells none 0) := hgn; replace hg2 := hg2.grown hgr (by intro e; injection e with e; omega); replace hg4 := hg4.grown hgr (by intro e; injection e with e; omega); replace HB := HB.grown hgr (by have := HB.size; omega) (by intro k e; injection e with e; omega); replace hg5 := hgn; replace hcg2 := hg2.cell; replace hfg2 := hg2.frozen; replace hcg4 := hg4.cell; replace hfg4 := hg4.frozen; replace hcg5 := hg5.cell; replace hfg5 := hg5.frozen; clear hgn hgr)
    | ((with_reducible refine gate_dst (N := 32) rfl ?_); refine ev_bytes rfl rfl Tryd.underlying9 Tryd.underlying25 Tryd.underlying5 rfl ?_; intro A5 c5 W6 hd5 hb; have hgr := grown_of_below hb; replace hg2 := hg2.grown hgr (by simp); replace hg4 := hg4.grown hgr (by simp); replace hg5 := hg5.grown hgr (by simp); replace HB := HB.grown hgr (by have := HB.size; omega) (by simp); replace hcg2 := hg2.cell; replace hfg2 := hg2.frozen; replace hcg4 := hg4.cell; replace hfg4 := hg4.frozen; replace hcg5 := hg5.cell; replace hfg5 := hg5.frozen; clear hb hgr)
    | ((with_reducible refine gate_store (p := 33) rfl ?_); refine ev_store_cell rfl rfl rfl hg5 rfl (i := 11) (v := .slice A5 r.Name.data.toList.length c5) rfl rfl (by kernel_rfl) (by first | exact (show (11 : Nat) < 12 by decide) | exact (show (11 : Nat) < 16 by decide) | exact (show (11 : Nat) < 6 by decide)) ?_; intro W7 hgn hgr; replace hgn : Blk W7 g5 _ (({ Rec.zero with V := to, Kind := r.Kind, Saga := r.Saga, Step := r.Count, Data := r.Name.data.toList } : Rec).cells A5 c5) := hgn; replace hd5 := hd5.kept hgr (RU.ne_blk hd5 hg5 (by decide)); replace hg2 := hg2.grown hgr (by intro e; injection e with e; omega); replace hg4 := hg4.grown hgr (by intro e; injection e with e; omega); replace HB := HB.grown hgr (by have := HB.size; omega) (by intro k e; injection e with e; omega); replace hg5 := hgn; replace hcg2 := hg2.cell; replace hfg2 := hg2.frozen; replace hcg4 := hg4.cell; replace hfg4 := hg4.frozen; replace hcg5 := hg5.cell; replace hfg5 := hg5.frozen; clear hgn hgr)
    | ((with_reducible refine gate_dst (N := 34) rfl ?_); refine wpList_load_row rfl _ _ rfl g5 rfl _ _ (0, 0) _ hg5 Tryd.underlying27 rfl rec_size ?_)
    | ((with_reducible refine gate_store (p := 4) rfl ?_); refine ev_store_row (cs := ({ Rec.zero with V := to, Kind := r.Kind, Saga := r.Saga, Step := r.Count, Data := r.Name.data.toList } : Rec).cells A5 c5) rfl rfl rfl hg4 rfl rfl rec_size rfl (cells_one _ _ _) ?_; intro W8 hgn hgr; replace hd5 := hd5.kept hgr (RU.ne_blk hd5 hg4 (by decide)); replace hg2 := hg2.grown hgr (by intro e; injection e with e; omega); replace hg5 := hg5.grown hgr (by intro e; injection e with e; omega); replace HB := HB.grown hgr (by have := HB.size; omega) (by intro k e; injection e with e; omega); replace hg4 := hgn; replace hcg2 := hg2.cell; replace hfg2 := hg2.frozen; replace hcg4 := hg4.cell; replace hfg4 := hg4.frozen; replace hcg5 := hg5.cell; replace hfg5 := hg5.frozen; clear hgn hgr))
  refine bodyPost_ret (results_cell_row rfl _ _ g4 _ _ (0, 0) _ rfl hg4 Tryd.underlying27 rfl rec_size) rfl ?_
  first
    | exact ⟨A5, c5, rfl, hd5, HB⟩
    | exact ⟨A5, ⟨c5, rfl⟩, hd5, HB⟩

set_option maxHeartbeats 4000000 in
set_option maxRecDepth 100000 in
theorem guessB_calls (r r' : Rec) (A : Option Addr) (c : Nat) (to : Int) (hl : r.Data.length ≤ 140737488351232) (hno : ¬ (1 < r.V ∧ to = 1 ∧ r.Kind = 1)) (hr' : r' = if to ≤ 1 then { guess0 r to with Data := r.Data } else if to ≤ 2 then { r with V := to, Code := 0, Pivot := 0 } else { r with V := to }) (w : World) (hd : RB w A r.Data) :
    GuessSaid Tryd.prog r' r A c to w := by
  have HB := Below.refl w.heap.size w
  have Hr' := Lib.hid hr'
  clear hr'
  have key : ∀ b1 b2 b3 : Bool, decide (1 < r.V) = b1 → (to == 1) = b2 → (r.Kind == 1) = b3 → (b1 && (b2 && b3)) = false →
      GuessSaid Tryd.prog r' r A c to w := by
    intro b1 b2 b3 t1 t2 t3 hor
    unfold GuessSaid
    cases b1
    case' true =>
      cases b2
      case' true =>
        cases b3
        case' true => exact absurd hor (by decide)
    all_goals
      clear hor hno
      go_enter Tryd.func66, Tryd.ntmps66
      go_wp2_with (first
        | ((with_reducible refine gate_dst (N := 2) rfl ?_); refine ev_box rfl rfl (r.cells A c) rfl ?_; intro g2 W1 hg2 hsz hbn; have hgr := grown_of_below hbn; have zg2 : w.heap.size ≤ g2 := (by have := HB.size; omega); replace HB := HB.grown hgr (by have := HB.size; omega) (by simp); have hcg2 := hg2.cell; have hfg2 := hg2.frozen; clear hsz hbn hgr)
        | ((with_reducible refine gate_dst (N := 4) rfl ?_); refine ev_alloc rfl rfl _ rec_zero ?_; intro g4 W2 hg4 hsz hbn; have hgr := grown_of_below hbn; have ng2g4 : g2 ≠ g4 := (by have := hg2.lt; omega); replace hg4 : Blk W2 g4 _ (Rec.zero.cells none 0) := hg4; have zg4 : w.heap.size ≤ g4 := (by have := HB.size; omega); replace hg2 := hg2.grown hgr (by simp); replace HB := HB.grown hgr (by have := HB.size; omega) (by simp); have hcg4 := hg4.cell; have hfg4 := hg4.frozen; replace hcg2 := hg2.cell; replace hfg2 := hg2.frozen; clear hsz hbn hgr)
        | ((with_reducible refine gate_dst (N := 5) rfl ?_); refine ev_alloc rfl rfl _ rec_zero ?_; intro g5 W3 hg5 hsz hbn; have hgr := grown_of_below hbn; have ng2g5 : g2 ≠ g5 := (by have := hg2.lt; omega); have ng4g5 : g4 ≠ g5 := (by have := hg4.lt; omega); replace hg5 : Blk W3 g5 _ (Rec.zero.cells none 0) := hg5; have zg5 : w.heap.size ≤ g5 := (by have := HB.size; omega); replace hg2 := hg2.grown hgr (by simp); replace hg4 := hg4.grown hgr (by simp); replace HB := HB.grown hgr (by have := HB.size; omega) (by simp); have hcg5 := hg5.cell; have hfg5 := hg5.frozen; replace hcg2 := hg2.cell; replace hfg2 := hg2.frozen; replace hcg4 := hg4.cell; replace hfg4 := hg4.frozen; clear hsz hbn hgr)
        | ((with_reducible refine gate_store (p := 5) rfl ?_); refine ev_store_row (cs := (guess0 r to).cells none 0) rfl rfl rfl hg5 rfl rfl rec_size rfl (cells_one _ _ _) ?_; intro W4 hgn hgr; replace hg2 := hg2.grown hgr (by intro e; injection e with e; omega); replace hg4 := hg4.grown hgr (by intro e; injection e with e; omega); replace HB := HB.grown hgr (by have := HB.size; omega) (by intro k e; injection e with e; omega); replace hg5 := hgn; replace hcg2 := hg2.cell; replace hfg2 := hg2.frozen; replace hcg4 := hg4.cell; replace hfg4 := hg4.frozen; replace hcg5 := hg5.cell; replace hfg5 := hg5.frozen; clear hgn hgr))
      go_loopg [6] r.Data.length (fun n v6 wr => ∃ (k : Nat) (A5 : Option Addr) (c5 : Nat) (acc : List UInt8), n + k = r.Data.length ∧ v6 = .int .i64 k ∧ Aside (acc = r.Data.take k ∧ Blk wr g2 _ (r.cells A c) ∧ Blk wr g4 _ (Rec.zero.cells none 0) ∧ Blk wr g5 _ (({ guess0 r to with Data := acc } : Rec).cells A5 c5) ∧
        wr.ownsRow w.heap.size 5 1 (.slice A5 acc.length c5) acc.length (u8s acc) ∧ Below w.heap.size w wr))
      case atStart => exact ⟨0, none, 0, [], by omega, rfl, ⟨rfl, hg2, hg4, hg5, own_nil _ _ _ _, HB⟩⟩
      case round =>
        clear hg2 hcg2 hfg2 hg4 hcg4 hfg4 hg5 hcg5 hfg5 HB
        obtain ⟨k, A5, c5, acc, hn, rfl, HA⟩ := hrel
        obtain ⟨hacc, hg2, hg4, hg5, o5, HB⟩ := HA.out
        clear HA
        have hcg2 := hg2.cell
        have hfg2 := hg2.frozen
        have hcg4 := hg4.cell
        have hfg4 := hg4.frozen
        have hcg5 := hg5.cell
        have hfg5 := hg5.frozen
        have hk1 : acc.length = k := by rw [hacc, List.length_take]; omega
        have Hacc := Lib.hid hacc
        have Hk1 := Lib.hid hk1
        clear hacc
        by_cases hlt : k < r.Data.length
        · have s1 : decide ((k : Int) < (r.Data.length : Int)) = true := by rw [decide_eq_true_eq]; omega
          have s1' : decide (k < r.Data.length) = true := by rw [decide_eq_true_eq]; exact hlt
          obtain ⟨ad, hA, hc⟩ := (hd.next HB).get hlt
          have hx : r.Data.take (k + 1) = acc ++ [r.Data[k]] := by rw [List.take_add_one, List.getElem?_eq_getElem hlt, Hacc.out]; rfl
          have hb := r.Data[k].toNat_lt
          have ub := u8_cell r.Data[k]
          have hb0 : r.Data[k]? = some r.Data[k] := List.getElem?_eq_getElem hlt
          generalize r.Data[k] = b at hc hx hb ub hb0
          subst hA
          have Hx := Lib.hid hx
          have Ub := Lib.hid ub
          have hal : acc.length ≤ 140737488351232 := by omega
          have lc : ∀ (A' : Option Addr) (c' : Nat), ((({ guess0 r to with Data := acc } : Rec).cells A5 c5).setIfInBounds 11 (.slice A' (acc.length + 1) c')) = ({ guess0 r to with Data := acc ++ [b] } : Rec).cells A' c' := fun A' c' => by rw [← show (acc ++ [b]).length = acc.length + 1 by simp]; rfl
          have Lc := Lib.hid lc
          have hlt2 : (k : Int) < r.Data.length := by omega
          clear hx ub hk1 lc
          have Hbyte := Lib.hid (fun (W : World) (hb : Below w.heap.size w W) => show W.cell? (ad.add k) = some (.int .u8 b.toNat) from byte_at hd hb hb0)
          go_wp2
          refine held_start (fun w' => Blk w' g2 27 (r.cells (some ad) c) ∧ Below w.heap.size w w') (by kernel_rfl) (fun wd hbd => ?_)
          have hbyte : ∀ W, Below w.heap.size w W → W.cell? (ad.add k) = some (.int .u8 b.toNat) := fun W hb => Hbyte.out W hb
          replace hg2 := hg2.next hbd
          replace hg4 := hg4.next hbd
          replace hg5 := hg5.next hbd
          replace o5 := own_next o5 hbd
          replace HB := below_go HB hbd
          have hcg5 := hg5.cell
          refine take_at (i := 0) (v := .pointer (some ⟨g5, 11, none⟩)) 42 rfl rfl (by kernel_rfl) (by kernel_rfl) (by kernel_rfl) (fun _ _ _ h => h) (.inl ⟨rfl, fun w h => by simp [go_sem]⟩) ⟨hg2, HB⟩ ?_
          simp only [Act.put, List.getElem_toArray, List.getElem_cons_succ, List.getElem_cons_zero, List.setIfInBounds_toArray, List.set_cons_succ, List.set_cons_zero]
          refine take_at (i := 2) (v := .pointer (some ⟨g2, 11, none⟩)) 44 rfl rfl (by kernel_rfl) (by kernel_rfl) (by kernel_rfl) (fun _ _ _ h => h) (.inl ⟨rfl, fun w h => by simp [go_sem]⟩) ⟨hg2, HB⟩ ?_
          simp only [Act.put, List.getElem_toArray, List.getElem_cons_succ, List.getElem_cons_zero, List.setIfInBounds_toArray, List.set_cons_succ, List.set_cons_zero]
          refine take_at (i := 3) (v := .slice (some ad) r.Data.length c) 45 rfl rfl (by kernel_rfl) (by kernel_rfl) (by kernel_rfl) (fun _ _ _ h => h) (.inl ⟨rfl, fun w h => by simp [go_sem, h.1.cell]⟩) ⟨hg2, HB⟩ ?_
          simp only [Act.put, List.getElem_toArray, List.getElem_cons_succ, List.getElem_cons_zero, List.setIfInBounds_toArray, List.set_cons_succ, List.set_cons_zero]
          refine take_at (i := 4) (v := .int .i64 k) 46 rfl rfl (by kernel_rfl) (by kernel_rfl) (by kernel_rfl) (fun _ _ _ h => h) (.inl ⟨rfl, fun w h => by simp [go_sem]⟩) ⟨hg2, HB⟩ ?_
          simp only [Act.put, List.getElem_toArray, List.getElem_cons_succ, List.getElem_cons_zero, List.setIfInBounds_toArray, List.set_cons_succ, List.set_cons_zero]
          refine take_at (i := 5) (v := .pointer (some (ad.add k))) 47 rfl rfl (by kernel_rfl) (by kernel_rfl) (by kernel_rfl) (fun _ _ _ h => h) (.inl ⟨rfl, fun w h => by simp [go_sem, hlt]⟩) ⟨hg2, HB⟩ ?_
          simp only [Act.put, List.getElem_toArray, List.getElem_cons_succ, List.getElem_cons_zero, List.setIfInBounds_toArray, List.set_cons_succ, List.set_cons_zero]
          refine take_at (i := 6) (v := .int .u8 b.toNat) 48 rfl rfl (by kernel_rfl) (by kernel_rfl) (by kernel_rfl) (fun _ _ _ h => h) (.inl ⟨rfl, fun w h => by simp [go_sem, hbyte _ h.2]⟩) ⟨hg2, HB⟩ ?_
          simp only [Act.put, List.getElem_toArray, List.getElem_cons_succ, List.getElem_cons_zero, List.setIfInBounds_toArray, List.set_cons_succ, List.set_cons_zero]
          refine held_two (i := 1) (j := 7) (by kernel_rfl) rfl rfl ?_ ?_
          · refine ev_run rfl (w1 := wd) (v := .slice A5 acc.length c5) (by simp [go_sem, hcg5]) ?_
            refine ⟨⟨hg2, HB⟩, ?_⟩
            simp only [Act.put, List.setIfInBounds_toArray, List.set_cons_succ, List.set_cons_zero]
            refine held_one (i := 7) (by kernel_rfl) rfl ?_
            ((with_reducible refine gate_dst (N := 49) rfl ?_); refine ev_lit rfl rfl (#[.int .u8 b.toNat]) 5 1 (by first | (go_simp; done) | (go_simp; rfl)) ?_; intro g9 W1 hg9 hsz hbn; have hgr := grown_of_below hbn; have ng2g9 : g2 ≠ g9 := (by have := hg2.lt; omega); have ng4g9 : g4 ≠ g9 := (by have := hg4.lt; omega); have ng5g9 : g5 ≠ g9 := (by have := hg5.lt; omega); have zg9 : w.heap.size ≤ g9 := (by have := HB.size; omega); replace hg2 := hg2.grown hgr (by simp); replace hg4 := hg4.grown hgr (by simp); replace hg5 := hg5.grown hgr (by simp); replace o5 := o5.kept hgr (by cases Value.ownBlock _ <;> simp); replace HB := HB.grown hgr (by have := HB.size; omega) (by simp); have hcg9 := hg9.cell; have hfg9 := hg9.frozen; replace hcg2 := hg2.cell; replace hfg2 := hg2.frozen; replace hcg4 := hg4.cell; replace hfg4 := hg4.frozen; replace hcg5 := hg5.cell; replace hfg5 := hg5.frozen; clear hsz hbn hgr)
            refine ⟨⟨hg2, HB⟩, ?_⟩
            try simp only [Act.put, List.getElem_toArray, List.getElem_cons_succ, List.getElem_cons_zero, List.setIfInBounds_toArray, List.set_cons_succ, List.set_cons_zero]
            refine held_one (i := 8) (by kernel_rfl) rfl ?_
            ((with_reducible refine gate_dst (N := 50) rfl ?_); refine ev_append rfl rfl Tryd.underlying25 info_u8 rfl (by omega) rfl o5 rfl (hg9.reads (size := 1) (n := 1) rfl) (fun u hu => by simp at hu; subst hu; rfl) (by omega) (by omega) (by have := HB.size; omega) ?_; intro A6 c6 W2 on hgr hat; replace hg2 := hg2.grown hgr (fun e => own_blk_ne o5 hg2 (by decide) e.symm); replace hg4 := hg4.grown hgr (fun e => own_blk_ne o5 hg4 (by decide) e.symm); replace hg5 := hg5.grown hgr (fun e => own_blk_ne o5 hg5 (by decide) e.symm); replace HB := HB.grown hgr (by have := HB.size; omega) (own_base o5); replace o5 := on; replace hcg2 := hg2.cell; replace hfg2 := hg2.frozen; replace hcg4 := hg4.cell; replace hfg4 := hg4.frozen; replace hcg5 := hg5.cell; replace hfg5 := hg5.frozen; clear on hgr hat)
            refine ⟨⟨hg2, HB⟩, ?_⟩
            try simp only [Act.put, List.getElem_toArray, List.getElem_cons_succ, List.getElem_cons_zero, List.setIfInBounds_toArray, List.set_cons_succ, List.set_cons_zero]
            refine take_at (i := 9) (v := .pointer (some ⟨g5, 11, none⟩)) 51 rfl rfl (by kernel_rfl) (by kernel_rfl) (by kernel_rfl) (fun _ _ _ h => h) (.inl ⟨rfl, fun w h => by simp [go_sem]⟩) ⟨hg2, HB⟩ ?_
            simp only [Act.put, List.getElem_toArray, List.getElem_cons_succ, List.getElem_cons_zero, List.setIfInBounds_toArray, List.set_cons_succ, List.set_cons_zero]
            refine held_one (i := 10) (by kernel_rfl) rfl ?_
            ((with_reducible refine gate_store (p := 51) rfl ?_); refine ev_store_cell rfl rfl rfl hg5 rfl (i := 11) (v := .slice A6 (acc.length + 1) c6) rfl rfl (by kernel_rfl) (by first | exact (show (11 : Nat) < 12 by decide) | exact (show (11 : Nat) < 16 by decide) | exact (show (11 : Nat) < 6 by decide)) ?_; intro W3 hgn hgr; replace hgn : Blk W3 g5 _ (({ guess0 r to with Data := acc ++ [b] } : Rec).cells A6 c6) := (by rw [← (Lc.out A6 c6)]; exact hgn); replace hg2 := hg2.grown hgr (by intro e; injection e with e; omega); replace hg4 := hg4.grown hgr (by intro e; injection e with e; omega); replace o5 := o5.kept hgr (.inr (own_blk_ne o5 hg5 (by decide))); replace HB := HB.grown hgr (by have := HB.size; omega) (by intro k e; injection e with e; omega); replace hg5 := hgn; replace hcg2 := hg2.cell; replace hfg2 := hg2.frozen; replace hcg4 := hg4.cell; replace hfg4 := hg4.frozen; replace hcg5 := hg5.cell; replace hfg5 := hg5.frozen; clear hgn hgr)
            refine ⟨⟨hg2, HB⟩, ?_⟩
            try simp only [Act.put, List.getElem_toArray, List.getElem_cons_succ, List.getElem_cons_zero, List.setIfInBounds_toArray, List.set_cons_succ, List.set_cons_zero]
            refine wpAnyH_done (by kernel_rfl) ?_ _
            go_wp2
            go_roundg (gk - 1)
            case measure => omega
            case rel => exact ⟨k + 1, A6, c6, acc ++ [b], by omega, by go_num, ⟨Hx.out.symm, hg2, hg4, hg5, by rw [u8s_append, Ub.out]; simpa using o5, HB⟩⟩
          · refine ev_lit rfl rfl (#[.int .u8 b.toNat]) 5 1 (by first | (go_simp; done) | (go_simp; rfl)) ?_
            intro g9 W9 hg9 hsz9 hbn9
            replace hg2 := hg2.next hbn9
            replace hg4 := hg4.next hbn9
            replace hg5 := hg5.next hbn9
            replace o5 := own_next o5 hbn9
            replace HB := below_go HB hbn9
            have hcg5 := hg5.cell
            refine ⟨⟨hg2, HB⟩, ?_⟩
            simp only [Act.put, List.setIfInBounds_toArray, List.set_cons_succ, List.set_cons_zero]
            refine held_one (i := 1) (by kernel_rfl) rfl ?_
            refine ev_run rfl (w1 := W9) (v := .slice A5 acc.length c5) (by simp [go_sem, hcg5]) ?_
            refine ⟨⟨hg2, HB⟩, ?_⟩
            simp only [Act.put, List.setIfInBounds_toArray, List.set_cons_succ, List.set_cons_zero]
            refine held_one (i := 8) (by kernel_rfl) rfl ?_
            ((with_reducible refine gate_dst (N := 50) rfl ?_); refine ev_append rfl rfl Tryd.underlying25 info_u8 rfl (by omega) rfl o5 rfl (hg9.reads (size := 1) (n := 1) rfl) (fun u hu => by simp at hu; subst hu; rfl) (by omega) (by omega) (by have := HB.size; omega) ?_; intro A6 c6 W1 on hgr hat; replace hg2 := hg2.grown hgr (fun e => own_blk_ne o5 hg2 (by decide) e.symm); replace hg4 := hg4.grown hgr (fun e => own_blk_ne o5 hg4 (by decide) e.symm); replace hg5 := hg5.grown hgr (fun e => own_blk_ne o5 hg5 (by decide) e.symm); replace HB := HB.grown hgr (by have := HB.size; omega) (own_base o5); replace o5 := on; replace hcg2 := hg2.cell; replace hfg2 := hg2.frozen; replace hcg4 := hg4.cell; replace hfg4 := hg4.frozen; replace hcg5 := hg5.cell; replace hfg5 := hg5.frozen; clear on hgr hat)
            refine ⟨⟨hg2, HB⟩, ?_⟩
            try simp only [Act.put, List.getElem_toArray, List.getElem_cons_succ, List.getElem_cons_zero, List.setIfInBounds_toArray, List.set_cons_succ, List.set_cons_zero]
            refine take_at (i := 9) (v := .pointer (some ⟨g5, 11, none⟩)) 51 rfl rfl (by kernel_rfl) (by kernel_rfl) (by kernel_rfl) (fun _ _ _ h => h) (.inl ⟨rfl, fun w h => by simp [go_sem]⟩) ⟨hg2, HB⟩ ?_
            simp only [Act.put, List.getElem_toArray, List.getElem_cons_succ, List.getElem_cons_zero, List.setIfInBounds_toArray, List.set_cons_succ, List.set_cons_zero]
            refine held_one (i := 10) (by kernel_rfl) rfl ?_
            ((with_reducible refine gate_store (p := 51) rfl ?_); refine ev_store_cell rfl rfl rfl hg5 rfl (i := 11) (v := .slice A6 (acc.length + 1) c6) rfl rfl (by kernel_rfl) (by first | exact (show (11 : Nat) < 12 by decide) | exact (show (11 : Nat) < 16 by decide) | exact (show (11 : Nat) < 6 by decide)) ?_; intro W2 hgn hgr; replace hgn : Blk W2 g5 _ (({ guess0 r to with Data := acc ++ [b] } : Rec).cells A6 c6) := (by rw [← (Lc.out A6 c6)]; exact hgn); replace hg2 := hg2.grown hgr (by intro e; injection e with e; omega); replace hg4 := hg4.grown hgr (by intro e; injection e with e; omega); replace o5 := o5.kept hgr (.inr (own_blk_ne o5 hg5 (by decide))); replace HB := HB.grown hgr (by have := HB.size; omega) (by intro k e; injection e with e; omega); replace hg5 := hgn; replace hcg2 := hg2.cell; replace hfg2 := hg2.frozen; replace hcg4 := hg4.cell; replace hfg4 := hg4.frozen; replace hcg5 := hg5.cell; replace hfg5 := hg5.frozen; clear hgn hgr)
            refine ⟨⟨hg2, HB⟩, ?_⟩
            try simp only [Act.put, List.getElem_toArray, List.getElem_cons_succ, List.getElem_cons_zero, List.setIfInBounds_toArray, List.set_cons_succ, List.set_cons_zero]
            refine wpAnyH_done (by kernel_rfl) ?_ _
            go_wp2
            go_roundg (gk - 1)
            case measure => omega
            case rel => exact ⟨k + 1, A6, c6, acc ++ [b], by omega, by go_num, ⟨Hx.out.symm, hg2, hg4, hg5, by rw [u8s_append, Ub.out]; simpa using o5, HB⟩⟩
        · have s1 : decide ((k : Int) < (r.Data.length : Int)) = false := by rw [decide_eq_false_iff_not]; omega
          have s1' : decide (k < r.Data.length) = false := by rw [decide_eq_false_iff_not]; exact hlt
          obtain rfl : acc = r.Data := by rw [Hacc.out, List.take_of_length_le (by omega)]
          clear Hacc hk1
          by_cases h1 : to ≤ 1
          · have H1 := Lib.hid h1
            have t4 : decide (1 < to) = false := by rw [decide_eq_false_iff_not]; omega
            have t5 : decide (2 < to) = false := by rw [decide_eq_false_iff_not]; omega
            clear h1
            go_wp2_with (first
              | ((with_reducible refine gate_dst (N := 77) rfl ?_); refine wpList_load_row rfl _ _ rfl g5 rfl _ _ (0, 0) _ hg5 Tryd.underlying27 rfl rec_size ?_)
              | ((with_reducible refine gate_store (p := 4) rfl ?_); refine ev_store_row (cs := ({ guess0 r to with Data := r.Data } : Rec).cells A5 c5) rfl rfl rfl hg4 rfl rfl rec_size rfl (cells_one _ _ _) ?_; intro W1 hgn hgr; replace hg2 := hg2.grown hgr (by intro e; injection e with e; omega); replace hg5 := hg5.grown hgr (by intro e; injection e with e; omega); replace o5 := o5.kept hgr (.inr (own_blk_ne o5 hg4 (by decide))); replace HB := HB.grown hgr (by have := HB.size; omega) (by intro k e; injection e with e; omega); replace hg4 := hgn; replace hcg2 := hg2.cell; replace hfg2 := hg2.frozen; replace hcg4 := hg4.cell; replace hfg4 := hg4.frozen; replace hcg5 := hg5.cell; replace hfg5 := hg5.frozen; clear hgn hgr))
            refine bodyPost_ret (results_cell_row rfl _ _ g4 _ _ (0, 0) _ rfl hg4 Tryd.underlying27 rfl rec_size) rfl ?_
            rw [Hr'.out, if_pos (by have := H1.out; omega)]
            first
                | exact ⟨A5, c5, rfl, RU.of_own o5, HB⟩
                | exact ⟨A5, ⟨c5, rfl⟩, RU.of_own o5, HB⟩
          · have H1 := Lib.hid (show ¬ to ≤ 1 from h1)
            have t4 : decide (1 < to) = true := by rw [decide_eq_true_eq]; omega
            by_cases h2 : to ≤ 2
            · have H2 := Lib.hid h2
              have t5 : decide (2 < to) = false := by rw [decide_eq_false_iff_not]; omega
              clear h1 h2
              go_wp2_with (first
                | ((with_reducible refine gate_store (p := 56) rfl ?_); refine ev_store_cell rfl rfl rfl hg5 rfl (i := 4) (v := .int .i64 r.Try) rfl rfl (by kernel_rfl) (by first | exact (show (4 : Nat) < 12 by decide) | exact (show (4 : Nat) < 16 by decide) | exact (show (4 : Nat) < 6 by decide)) ?_; intro W1 hgn hgr; replace hgn : Blk W1 g5 _ (({ guess0 r to with Data := r.Data, Try := r.Try } : Rec).cells A5 c5) := hgn; replace hg2 := hg2.grown hgr (by intro e; injection e with e; omega); replace hg4 := hg4.grown hgr (by intro e; injection e with e; omega); replace o5 := o5.kept hgr (.inr (own_blk_ne o5 hg5 (by decide))); replace HB := HB.grown hgr (by have := HB.size; omega) (by intro k e; injection e with e; omega); replace hg5 := hgn; replace hcg2 := hg2.cell; replace hfg2 := hg2.frozen; replace hcg4 := hg4.cell; replace hfg4 := hg4.frozen; replace hcg5 := hg5.cell; replace hfg5 := hg5.frozen; clear hgn hgr)
                | ((with_reducible refine gate_store (p := 59) rfl ?_); refine ev_store_cell rfl rfl rfl hg5 rfl (i := 5) (v := .int .i64 r.At) rfl rfl (by kernel_rfl) (by first | exact (show (5 : Nat) < 12 by decide) | exact (show (5 : Nat) < 16 by decide) | exact (show (5 : Nat) < 6 by decide)) ?_; intro W2 hgn hgr; replace hgn : Blk W2 g5 _ (({ guess0 r to with Data := r.Data, Try := r.Try, At := r.At } : Rec).cells A5 c5) := hgn; replace hg2 := hg2.grown hgr (by intro e; injection e with e; omega); replace hg4 := hg4.grown hgr (by intro e; injection e with e; omega); replace o5 := o5.kept hgr (.inr (own_blk_ne o5 hg5 (by decide))); replace HB := HB.grown hgr (by have := HB.size; omega) (by intro k e; injection e with e; omega); replace hg5 := hgn; replace hcg2 := hg2.cell; replace hfg2 := hg2.frozen; replace hcg4 := hg4.cell; replace hfg4 := hg4.frozen; replace hcg5 := hg5.cell; replace hfg5 := hg5.frozen; clear hgn hgr)
                | ((with_reducible refine gate_store (p := 62) rfl ?_); refine ev_store_cell rfl rfl rfl hg5 rfl (i := 6) (v := .int .i64 r.Last) rfl rfl (by kernel_rfl) (by first | exact (show (6 : Nat) < 12 by decide) | exact (show (6 : Nat) < 16 by decide) | exact (show (6 : Nat) < 6 by decide)) ?_; intro W3 hgn hgr; replace hgn : Blk W3 g5 _ (({ guess0 r to with Data := r.Data, Try := r.Try, At := r.At, Last := r.Last } : Rec).cells A5 c5) := hgn; replace hg2 := hg2.grown hgr (by intro e; injection e with e; omega); replace hg4 := hg4.grown hgr (by intro e; injection e with e; omega); replace o5 := o5.kept hgr (.inr (own_blk_ne o5 hg5 (by decide))); replace HB := HB.grown hgr (by have := HB.size; omega) (by intro k e; injection e with e; omega); replace hg5 := hgn; replace hcg2 := hg2.cell; replace hfg2 := hg2.frozen; replace hcg4 := hg4.cell; replace hfg4 := hg4.frozen; replace hcg5 := hg5.cell; replace hfg5 := hg5.frozen; clear hgn hgr)
                | ((with_reducible refine gate_store (p := 65) rfl ?_); refine ev_store_cell rfl rfl rfl hg5 rfl (i := 8) (v := .int .i64 r.Count) rfl rfl (by kernel_rfl) (by first | exact (show (8 : Nat) < 12 by decide) | exact (show (8 : Nat) < 16 by decide) | exact (show (8 : Nat) < 6 by decide)) ?_; intro W4 hgn hgr; replace hgn : Blk W4 g5 _ (({ guess0 r to with Data := r.Data, Try := r.Try, At := r.At, Last := r.Last, Count := r.Count } : Rec).cells A5 c5) := hgn; replace hg2 := hg2.grown hgr (by intro e; injection e with e; omega); replace hg4 := hg4.grown hgr (by intro e; injection e with e; omega); replace o5 := o5.kept hgr (.inr (own_blk_ne o5 hg5 (by decide))); replace HB := HB.grown hgr (by have := HB.size; omega) (by intro k e; injection e with e; omega); replace hg5 := hgn; replace hcg2 := hg2.cell; replace hfg2 := hg2.frozen; replace hcg4 := hg4.cell; replace hfg4 := hg4.frozen; replace hcg5 := hg5.cell; replace hfg5 := hg5.frozen; clear hgn hgr)
                | ((with_reducible refine gate_store (p := 68) rfl ?_); refine ev_store_cell rfl rfl rfl hg5 rfl (i := 10) (v := .string r.Name) rfl rfl (by kernel_rfl) (by first | exact (show (10 : Nat) < 12 by decide) | exact (show (10 : Nat) < 16 by decide) | exact (show (10 : Nat) < 6 by decide)) ?_; intro W5 hgn hgr; replace hgn : Blk W5 g5 _ (({ r with V := to, Code := 0, Pivot := 0 } : Rec).cells A5 c5) := hgn; replace hg2 := hg2.grown hgr (by intro e; injection e with e; omega); replace hg4 := hg4.grown hgr (by intro e; injection e with e; omega); replace o5 := o5.kept hgr (.inr (own_blk_ne o5 hg5 (by decide))); replace HB := HB.grown hgr (by have := HB.size; omega) (by intro k e; injection e with e; omega); replace hg5 := hgn; replace hcg2 := hg2.cell; replace hfg2 := hg2.frozen; replace hcg4 := hg4.cell; replace hfg4 := hg4.frozen; replace hcg5 := hg5.cell; replace hfg5 := hg5.frozen; clear hgn hgr)
                | ((with_reducible refine gate_dst (N := 77) rfl ?_); refine wpList_load_row rfl _ _ rfl g5 rfl _ _ (0, 0) _ hg5 Tryd.underlying27 rfl rec_size ?_)
                | ((with_reducible refine gate_store (p := 4) rfl ?_); refine ev_store_row (cs := ({ r with V := to, Code := 0, Pivot := 0 } : Rec).cells A5 c5) rfl rfl rfl hg4 rfl rfl rec_size rfl (cells_one _ _ _) ?_; intro W6 hgn hgr; replace hg2 := hg2.grown hgr (by intro e; injection e with e; omega); replace hg5 := hg5.grown hgr (by intro e; injection e with e; omega); replace o5 := o5.kept hgr (.inr (own_blk_ne o5 hg4 (by decide))); replace HB := HB.grown hgr (by have := HB.size; omega) (by intro k e; injection e with e; omega); replace hg4 := hgn; replace hcg2 := hg2.cell; replace hfg2 := hg2.frozen; replace hcg4 := hg4.cell; replace hfg4 := hg4.frozen; replace hcg5 := hg5.cell; replace hfg5 := hg5.frozen; clear hgn hgr))
              refine bodyPost_ret (results_cell_row rfl _ _ g4 _ _ (0, 0) _ rfl hg4 Tryd.underlying27 rfl rec_size) rfl ?_
              rw [Hr'.out, if_neg (by have := H1.out; omega), if_pos (by have := H2.out; omega)]
              first
                | exact ⟨A5, c5, rfl, RU.of_own o5, HB⟩
                | exact ⟨A5, ⟨c5, rfl⟩, RU.of_own o5, HB⟩
            · have H2 := Lib.hid (show ¬ to ≤ 2 from h2)
              have t5 : decide (2 < to) = true := by rw [decide_eq_true_eq]; omega
              clear h1 h2
              go_wp2_with (first
                | ((with_reducible refine gate_store (p := 56) rfl ?_); refine ev_store_cell rfl rfl rfl hg5 rfl (i := 4) (v := .int .i64 r.Try) rfl rfl (by kernel_rfl) (by first | exact (show (4 : Nat) < 12 by decide) | exact (show (4 : Nat) < 16 by decide) | exact (show (4 : Nat) < 6 by decide)) ?_; intro W1 hgn hgr; replace hgn : Blk W1 g5 _ (({ guess0 r to with Data := r.Data, Try := r.Try } : Rec).cells A5 c5) := hgn; replace hg2 := hg2.grown hgr (by intro e; injection e with e; omega); replace hg4 := hg4.grown hgr (by intro e; injection e with e; omega); replace o5 := o5.kept hgr (.inr (own_blk_ne o5 hg5 (by decide))); replace HB := HB.grown hgr (by have := HB.size; omega) (by intro k e; injection e with e; omega); replace hg5 := hgn; replace hcg2 := hg2.cell; replace hfg2 := hg2.frozen; replace hcg4 := hg4.cell; replace hfg4 := hg4.frozen; replace hcg5 := hg5.cell; replace hfg5 := hg5.frozen; clear hgn hgr)
                | ((with_reducible refine gate_store (p := 59) rfl ?_); refine ev_store_cell rfl rfl rfl hg5 rfl (i := 5) (v := .int .i64 r.At) rfl rfl (by kernel_rfl) (by first | exact (show (5 : Nat) < 12 by decide) | exact (show (5 : Nat) < 16 by decide) | exact (show (5 : Nat) < 6 by decide)) ?_; intro W2 hgn hgr; replace hgn : Blk W2 g5 _ (({ guess0 r to with Data := r.Data, Try := r.Try, At := r.At } : Rec).cells A5 c5) := hgn; replace hg2 := hg2.grown hgr (by intro e; injection e with e; omega); replace hg4 := hg4.grown hgr (by intro e; injection e with e; omega); replace o5 := o5.kept hgr (.inr (own_blk_ne o5 hg5 (by decide))); replace HB := HB.grown hgr (by have := HB.size; omega) (by intro k e; injection e with e; omega); replace hg5 := hgn; replace hcg2 := hg2.cell; replace hfg2 := hg2.frozen; replace hcg4 := hg4.cell; replace hfg4 := hg4.frozen; replace hcg5 := hg5.cell; replace hfg5 := hg5.frozen; clear hgn hgr)
                | ((with_reducible refine gate_store (p := 62) rfl ?_); refine ev_store_cell rfl rfl rfl hg5 rfl (i := 6) (v := .int .i64 r.Last) rfl rfl (by kernel_rfl) (by first | exact (show (6 : Nat) < 12 by decide) | exact (show (6 : Nat) < 16 by decide) | exact (show (6 : Nat) < 6 by decide)) ?_; intro W3 hgn hgr; replace hgn : Blk W3 g5 _ (({ guess0 r to with Data := r.Data, Try := r.Try, At := r.At, Last := r.Last } : Rec).cells A5 c5) := hgn; replace hg2 := hg2.grown hgr (by intro e; injection e with e; omega); replace hg4 := hg4.grown hgr (by intro e; injection e with e; omega); replace o5 := o5.kept hgr (.inr (own_blk_ne o5 hg5 (by decide))); replace HB := HB.grown hgr (by have := HB.size; omega) (by intro k e; injection e with e; omega); replace hg5 := hgn; replace hcg2 := hg2.cell; replace hfg2 := hg2.frozen; replace hcg4 := hg4.cell; replace hfg4 := hg4.frozen; replace hcg5 := hg5.cell; replace hfg5 := hg5.frozen; clear hgn hgr)
                | ((with_reducible refine gate_store (p := 65) rfl ?_); refine ev_store_cell rfl rfl rfl hg5 rfl (i := 8) (v := .int .i64 r.Count) rfl rfl (by kernel_rfl) (by first | exact (show (8 : Nat) < 12 by decide) | exact (show (8 : Nat) < 16 by decide) | exact (show (8 : Nat) < 6 by decide)) ?_; intro W4 hgn hgr; replace hgn : Blk W4 g5 _ (({ guess0 r to with Data := r.Data, Try := r.Try, At := r.At, Last := r.Last, Count := r.Count } : Rec).cells A5 c5) := hgn; replace hg2 := hg2.grown hgr (by intro e; injection e with e; omega); replace hg4 := hg4.grown hgr (by intro e; injection e with e; omega); replace o5 := o5.kept hgr (.inr (own_blk_ne o5 hg5 (by decide))); replace HB := HB.grown hgr (by have := HB.size; omega) (by intro k e; injection e with e; omega); replace hg5 := hgn; replace hcg2 := hg2.cell; replace hfg2 := hg2.frozen; replace hcg4 := hg4.cell; replace hfg4 := hg4.frozen; replace hcg5 := hg5.cell; replace hfg5 := hg5.frozen; clear hgn hgr)
                | ((with_reducible refine gate_store (p := 68) rfl ?_); refine ev_store_cell rfl rfl rfl hg5 rfl (i := 10) (v := .string r.Name) rfl rfl (by kernel_rfl) (by first | exact (show (10 : Nat) < 12 by decide) | exact (show (10 : Nat) < 16 by decide) | exact (show (10 : Nat) < 6 by decide)) ?_; intro W5 hgn hgr; replace hgn : Blk W5 g5 _ (({ r with V := to, Code := 0, Pivot := 0 } : Rec).cells A5 c5) := hgn; replace hg2 := hg2.grown hgr (by intro e; injection e with e; omega); replace hg4 := hg4.grown hgr (by intro e; injection e with e; omega); replace o5 := o5.kept hgr (.inr (own_blk_ne o5 hg5 (by decide))); replace HB := HB.grown hgr (by have := HB.size; omega) (by intro k e; injection e with e; omega); replace hg5 := hgn; replace hcg2 := hg2.cell; replace hfg2 := hg2.frozen; replace hcg4 := hg4.cell; replace hfg4 := hg4.frozen; replace hcg5 := hg5.cell; replace hfg5 := hg5.frozen; clear hgn hgr)
                | ((with_reducible refine gate_store (p := 73) rfl ?_); refine ev_store_cell rfl rfl rfl hg5 rfl (i := 7) (v := .int .i64 r.Code) rfl rfl (by kernel_rfl) (by first | exact (show (7 : Nat) < 12 by decide) | exact (show (7 : Nat) < 16 by decide) | exact (show (7 : Nat) < 6 by decide)) ?_; intro W6 hgn hgr; replace hgn : Blk W6 g5 _ (({ r with V := to, Pivot := 0 } : Rec).cells A5 c5) := hgn; replace hg2 := hg2.grown hgr (by intro e; injection e with e; omega); replace hg4 := hg4.grown hgr (by intro e; injection e with e; omega); replace o5 := o5.kept hgr (.inr (own_blk_ne o5 hg5 (by decide))); replace HB := HB.grown hgr (by have := HB.size; omega) (by intro k e; injection e with e; omega); replace hg5 := hgn; replace hcg2 := hg2.cell; replace hfg2 := hg2.frozen; replace hcg4 := hg4.cell; replace hfg4 := hg4.frozen; replace hcg5 := hg5.cell; replace hfg5 := hg5.frozen; clear hgn hgr)
                | ((with_reducible refine gate_store (p := 76) rfl ?_); refine ev_store_cell rfl rfl rfl hg5 rfl (i := 9) (v := .int .i64 r.Pivot) rfl rfl (by kernel_rfl) (by first | exact (show (9 : Nat) < 12 by decide) | exact (show (9 : Nat) < 16 by decide) | exact (show (9 : Nat) < 6 by decide)) ?_; intro W7 hgn hgr; replace hgn : Blk W7 g5 _ (({ r with V := to } : Rec).cells A5 c5) := hgn; replace hg2 := hg2.grown hgr (by intro e; injection e with e; omega); replace hg4 := hg4.grown hgr (by intro e; injection e with e; omega); replace o5 := o5.kept hgr (.inr (own_blk_ne o5 hg5 (by decide))); replace HB := HB.grown hgr (by have := HB.size; omega) (by intro k e; injection e with e; omega); replace hg5 := hgn; replace hcg2 := hg2.cell; replace hfg2 := hg2.frozen; replace hcg4 := hg4.cell; replace hfg4 := hg4.frozen; replace hcg5 := hg5.cell; replace hfg5 := hg5.frozen; clear hgn hgr)
                | ((with_reducible refine gate_dst (N := 77) rfl ?_); refine wpList_load_row rfl _ _ rfl g5 rfl _ _ (0, 0) _ hg5 Tryd.underlying27 rfl rec_size ?_)
                | ((with_reducible refine gate_store (p := 4) rfl ?_); refine ev_store_row (cs := ({ r with V := to } : Rec).cells A5 c5) rfl rfl rfl hg4 rfl rfl rec_size rfl (cells_one _ _ _) ?_; intro W8 hgn hgr; replace hg2 := hg2.grown hgr (by intro e; injection e with e; omega); replace hg5 := hg5.grown hgr (by intro e; injection e with e; omega); replace o5 := o5.kept hgr (.inr (own_blk_ne o5 hg4 (by decide))); replace HB := HB.grown hgr (by have := HB.size; omega) (by intro k e; injection e with e; omega); replace hg4 := hgn; replace hcg2 := hg2.cell; replace hfg2 := hg2.frozen; replace hcg4 := hg4.cell; replace hfg4 := hg4.frozen; replace hcg5 := hg5.cell; replace hfg5 := hg5.frozen; clear hgn hgr))
              refine bodyPost_ret (results_cell_row rfl _ _ g4 _ _ (0, 0) _ rfl hg4 Tryd.underlying27 rfl rec_size) rfl ?_
              rw [Hr'.out, if_neg (by have := H1.out; omega), if_neg (by have := H2.out; omega)]
              first
                | exact ⟨A5, c5, rfl, RU.of_own o5, HB⟩
                | exact ⟨A5, ⟨c5, rfl⟩, RU.of_own o5, HB⟩
  exact key _ _ _ rfl rfl rfl (by
    cases h1 : decide (1 < r.V) <;> cases h2 : (to == 1) <;> cases h3 : (r.Kind == 1) <;> try rfl
    exact absurd ⟨of_decide_eq_true h1, by simpa using h2, by simpa using h3⟩ hno)
end Go.Proofs.YtikodgaomhmbmaaDoor
namespace Go.Proofs.YtikodgaomhmbmaaDoor
open Go.RowKit
attribute [local go_sem] Rec.size_ Rec.g0 Rec.g1 Rec.g2 Rec.g3 Rec.g4 Rec.g5 Rec.g6 Rec.g7 Rec.g8 Rec.g9 Rec.g10 Rec.g11 Rec.fold

theorem guess_calls (r : Rec) (A : Option Addr) (c : Nat) (to : Int) (hl : r.Data.length ≤ 140737488351232) (w : World) (hd : RB w A r.Data) : GuessSaid Tryd.prog (guessR r to) r A c to w := by
  by_cases h : 1 < r.V ∧ to = 1 ∧ r.Kind = 1
  · have e : guessR r to = { Rec.zero with V := to, Kind := r.Kind, Saga := r.Saga, Step := r.Count, Data := r.Name.data.toList } := if_pos h
    rw [e]
    exact guessA_calls r A c to h.1 h.2.1 h.2.2 w
  · exact guessB_calls r (guessR r to) A c to hl h (if_neg h) w hd
theorem guess_fits {r : Rec} (hf : r.Fits) (to : Int) : (guessR r to).Fits := by
  unfold guessR
  repeat' split
  · exact fits_of (n := ⟨#[]⟩) (d := r.Name.data.toList) rfl rfl (by decide) hf.name
  · exact fits_of (n := ⟨#[]⟩) (d := r.Data) rfl rfl (by decide) hf.data
  all_goals exact ⟨hf.name, hf.data⟩
theorem guess_name {r : Rec} (hz : r.Name.size ≤ 1099511627776) (to : Int) : (guessR r to).Name.size ≤ 1099511627776 := by
  unfold guessR
  repeat' split
  · exact Nat.zero_le _
  · exact Nat.zero_le _
  all_goals exact hz
set_option maxHeartbeats 2000000 in
set_option maxRecDepth 100000 in
theorem refDown_calls (r : Rec) (A : Option Addr) (c : Nat) (to : Int) (hf : r.Fits) (hz : r.Name.size ≤ 1099511627776) (w : World) (hR : RTabs w) (hd : RB w A r.Data) :
    MoveSaid Tryd.prog 41 (downR r to) (downE r to) r A c to w := by
  have HB := Below.refl w.heap.size w
  have HR := Lib.hid hR
  have hl := hf.data
  have cc := fun w => refCheck_calls r A c hz w
  unfold MoveSaid
  by_cases hc : r.chk = 0
  · rw [hc] at cc
    have Cc := Lib.hid cc
    have hV := ((chk_ok r).1 hc).1
    by_cases hb1 : to < 1
    · have e1 : downE r to = 3 := by unfold downE; rw [if_neg (by simp [hc]), if_pos (by rw [known_range]; omega)]
      have e2 : downR r to = Rec.zero := by unfold downR; rw [e1]; rfl
      rw [e1, e2]
      have t1 : decide (to < 1) = true := decide_eq_true hb1
      clear e1 e2 cc hc hb1 hR hV
      go_enter Tryd.func41, Tryd.ntmps41
      go_wp2_with (first
        | ((with_reducible refine gate_dst (N := 2) rfl ?_); refine ev_box rfl rfl (r.cells A c) rfl ?_; intro g2 W1 hg2 hsz hbn; have hgr := grown_of_below hbn; have zg2 : w.heap.size ≤ g2 := (by have := HB.size; omega); replace HB := HB.grown hgr (by have := HB.size; omega) (by simp); have hcg2 := hg2.cell; have hfg2 := hg2.frozen; clear hsz hbn hgr)
        | ((with_reducible refine gate_dst (N := 4) rfl ?_); refine ev_alloc rfl rfl _ rec_zero ?_; intro g4 W2 hg4 hsz hbn; have hgr := grown_of_below hbn; have ng2g4 : g2 ≠ g4 := (by have := hg2.lt; omega); replace hg4 : Blk W2 g4 _ (Rec.zero.cells none 0) := hg4; have zg4 : w.heap.size ≤ g4 := (by have := HB.size; omega); replace hg2 := hg2.grown hgr (by simp); replace HB := HB.grown hgr (by have := HB.size; omega) (by simp); have hcg4 := hg4.cell; have hfg4 := hg4.frozen; replace hcg2 := hg2.cell; replace hfg2 := hg2.frozen; clear hsz hbn hgr)
        | ((with_reducible refine gate_dst (N := 11) rfl ?_); refine wpList_load_row rfl _ _ rfl g2 rfl _ _ (0, 0) _ hg2 Tryd.underlying27 rfl rec_size ?_)
        | (go_at_call 55; (with_reducible refine (Cc.out _ (HR.out.next HB) (hd.next HB)).mono ?_); rintro e W3 ⟨rfl, hb⟩; have hgr := grown_of_below hb; replace hg2 := hg2.grown hgr (by simp); replace hg4 := hg4.grown hgr (by simp); replace HB := HB.grown hgr (by have := HB.size; omega) (by simp); replace hcg2 := hg2.cell; replace hfg2 := hg2.frozen; replace hcg4 := hg4.cell; replace hfg4 := hg4.frozen; clear hb hgr)
        | ((with_reducible refine gate_store (p := 4) rfl ?_); refine ev_store_row (cs := Rec.zero.cells none 0) rfl rfl rfl hg4 rfl rfl rec_size rfl (cells_one _ _ _) ?_; intro W4 hgn hgr; replace hg2 := hg2.grown hgr (by intro e; injection e with e; omega); replace HB := HB.grown hgr (by have := HB.size; omega) (by intro k e; injection e with e; omega); replace hg4 := hgn; replace hcg2 := hg2.cell; replace hfg2 := hg2.frozen; replace hcg4 := hg4.cell; replace hfg4 := hg4.frozen; clear hgn hgr))
      refine ret_row rfl hg4 rfl Tryd.underlying27 rfl rec_size rfl ?_
      exact ⟨none, 0, rfl, RU.nil, HB⟩
    have t1 : decide (to < 1) = false := decide_eq_false hb1
    by_cases hb3 : 3 < to
    · have e1 : downE r to = 3 := by unfold downE; rw [if_neg (by simp [hc]), if_pos (by rw [known_range]; omega)]
      have e2 : downR r to = Rec.zero := by unfold downR; rw [e1]; rfl
      rw [e1, e2]
      have t2 : decide (3 < to) = true := decide_eq_true hb3
      clear e1 e2 cc hc hb1 hb3 hR hV
      go_enter Tryd.func41, Tryd.ntmps41
      go_wp2_with (first
        | ((with_reducible refine gate_dst (N := 2) rfl ?_); refine ev_box rfl rfl (r.cells A c) rfl ?_; intro g2 W1 hg2 hsz hbn; have hgr := grown_of_below hbn; have zg2 : w.heap.size ≤ g2 := (by have := HB.size; omega); replace HB := HB.grown hgr (by have := HB.size; omega) (by simp); have hcg2 := hg2.cell; have hfg2 := hg2.frozen; clear hsz hbn hgr)
        | ((with_reducible refine gate_dst (N := 4) rfl ?_); refine ev_alloc rfl rfl _ rec_zero ?_; intro g4 W2 hg4 hsz hbn; have hgr := grown_of_below hbn; have ng2g4 : g2 ≠ g4 := (by have := hg2.lt; omega); replace hg4 : Blk W2 g4 _ (Rec.zero.cells none 0) := hg4; have zg4 : w.heap.size ≤ g4 := (by have := HB.size; omega); replace hg2 := hg2.grown hgr (by simp); replace HB := HB.grown hgr (by have := HB.size; omega) (by simp); have hcg4 := hg4.cell; have hfg4 := hg4.frozen; replace hcg2 := hg2.cell; replace hfg2 := hg2.frozen; clear hsz hbn hgr)
        | ((with_reducible refine gate_dst (N := 11) rfl ?_); refine wpList_load_row rfl _ _ rfl g2 rfl _ _ (0, 0) _ hg2 Tryd.underlying27 rfl rec_size ?_)
        | (go_at_call 55; (with_reducible refine (Cc.out _ (HR.out.next HB) (hd.next HB)).mono ?_); rintro e W3 ⟨rfl, hb⟩; have hgr := grown_of_below hb; replace hg2 := hg2.grown hgr (by simp); replace hg4 := hg4.grown hgr (by simp); replace HB := HB.grown hgr (by have := HB.size; omega) (by simp); replace hcg2 := hg2.cell; replace hfg2 := hg2.frozen; replace hcg4 := hg4.cell; replace hfg4 := hg4.frozen; clear hb hgr)
        | ((with_reducible refine gate_store (p := 4) rfl ?_); refine ev_store_row (cs := Rec.zero.cells none 0) rfl rfl rfl hg4 rfl rfl rec_size rfl (cells_one _ _ _) ?_; intro W4 hgn hgr; replace hg2 := hg2.grown hgr (by intro e; injection e with e; omega); replace HB := HB.grown hgr (by have := HB.size; omega) (by intro k e; injection e with e; omega); replace hg4 := hgn; replace hcg2 := hg2.cell; replace hfg2 := hg2.frozen; replace hcg4 := hg4.cell; replace hfg4 := hg4.frozen; clear hgn hgr))
      refine ret_row rfl hg4 rfl Tryd.underlying27 rfl rec_size rfl ?_
      exact ⟨none, 0, rfl, RU.nil, HB⟩
    have t2 : decide (3 < to) = false := decide_eq_false hb3
    have hk : known to = true := known_range.2 (by omega)
    by_cases hlt : r.V < to
    · have e1 : downE r to = 41 := by unfold downE; rw [if_neg (by simp [hc]), if_neg (by simp [hk]), if_pos hlt]
      have e2 : downR r to = Rec.zero := by unfold downR; rw [e1]; rfl
      rw [e1, e2]
      have t3 : decide (r.V < to) = true := decide_eq_true hlt
      clear e1 e2 cc hc hb1 hb3 hR hk hlt hV
      go_enter Tryd.func41, Tryd.ntmps41
      go_wp2_with (first
        | ((with_reducible refine gate_dst (N := 2) rfl ?_); refine ev_box rfl rfl (r.cells A c) rfl ?_; intro g2 W1 hg2 hsz hbn; have hgr := grown_of_below hbn; have zg2 : w.heap.size ≤ g2 := (by have := HB.size; omega); replace HB := HB.grown hgr (by have := HB.size; omega) (by simp); have hcg2 := hg2.cell; have hfg2 := hg2.frozen; clear hsz hbn hgr)
        | ((with_reducible refine gate_dst (N := 4) rfl ?_); refine ev_alloc rfl rfl _ rec_zero ?_; intro g4 W2 hg4 hsz hbn; have hgr := grown_of_below hbn; have ng2g4 : g2 ≠ g4 := (by have := hg2.lt; omega); replace hg4 : Blk W2 g4 _ (Rec.zero.cells none 0) := hg4; have zg4 : w.heap.size ≤ g4 := (by have := HB.size; omega); replace hg2 := hg2.grown hgr (by simp); replace HB := HB.grown hgr (by have := HB.size; omega) (by simp); have hcg4 := hg4.cell; have hfg4 := hg4.frozen; replace hcg2 := hg2.cell; replace hfg2 := hg2.frozen; clear hsz hbn hgr)
        | ((with_reducible refine gate_dst (N := 11) rfl ?_); refine wpList_load_row rfl _ _ rfl g2 rfl _ _ (0, 0) _ hg2 Tryd.underlying27 rfl rec_size ?_)
        | (go_at_call 55; (with_reducible refine (Cc.out _ (HR.out.next HB) (hd.next HB)).mono ?_); rintro e W3 ⟨rfl, hb⟩; have hgr := grown_of_below hb; replace hg2 := hg2.grown hgr (by simp); replace hg4 := hg4.grown hgr (by simp); replace HB := HB.grown hgr (by have := HB.size; omega) (by simp); replace hcg2 := hg2.cell; replace hfg2 := hg2.frozen; replace hcg4 := hg4.cell; replace hfg4 := hg4.frozen; clear hb hgr)
        | ((with_reducible refine gate_store (p := 4) rfl ?_); refine ev_store_row (cs := Rec.zero.cells none 0) rfl rfl rfl hg4 rfl rfl rec_size rfl (cells_one _ _ _) ?_; intro W4 hgn hgr; replace hg2 := hg2.grown hgr (by intro e; injection e with e; omega); replace HB := HB.grown hgr (by have := HB.size; omega) (by intro k e; injection e with e; omega); replace hg4 := hgn; replace hcg2 := hg2.cell; replace hfg2 := hg2.frozen; replace hcg4 := hg4.cell; replace hfg4 := hg4.frozen; clear hgn hgr))
      refine ret_row rfl hg4 rfl Tryd.underlying27 rfl rec_size rfl ?_
      exact ⟨none, 0, rfl, RU.nil, HB⟩
    have t3 : decide (r.V < to) = false := decide_eq_false hlt
    have e1 : downE r to = if turnF r to then 0 else 40 := by unfold downE; rw [if_neg (by simp [hc]), if_neg (by simp [hk]), if_neg hlt]
    obtain ⟨r1, r2⟩ := refDown_ok hc (show 1 ≤ to by omega) (show to ≤ r.V by omega)
    have cg := fun w => guess_calls r A c to hl w
    unfold GuessSaid at cg
    have hqf := guess_fits hf to
    have hqz := guess_name hz to
    have e2 : turnF r to = true → downR r to = guessR r to := fun h => by
      unfold downR
      rw [e1, h, if_pos rfl, if_pos rfl, (r1 h).2.2]
    have e3 : turnF r to = false → downR r to = Rec.zero := fun h => by
      unfold downR
      rw [e1, h]
      rfl
    generalize guessR r to = q at cg r1 r2 hqf hqz e2
    have Cg := Lib.hid cg
    have cu := fun A c w => refUp_calls q A c r.V hqf hqz w
    have hur : upE q r.V = 0 → upR q r.V = turnR q r.V := fun h => if_pos h
    have huf := hqf.up r.V
    unfold MoveSaid at cu
    generalize upR q r.V = u at cu hur huf
    generalize upE q r.V = er at cu hur r1 r2
    have Cu := Lib.hid cu
    have hul := huf.data
    have cs := fun A' c' w => refSame_calls u r A' A c' c w
    cases hF : turnF r to with
    | true =>
      obtain ⟨s1, s2, s3⟩ := r1 hF
      subst s1
      have hu : u = r := by rw [hur rfl, s2]
      have cs' := fun A' c' w ha hb => cs A' c' w ha hb hul hl
      rw [Rec.same_true hu] at cs'
      have Cs := Lib.hid cs'
      rw [e1, hF, if_pos rfl, e2 hF]
      clear e1 e2 e3 cc hc hb1 hb3 hR hk hlt hV r1 r2 cg cu hur huf cs cs' hF s2 s3 hqf hqz hu
      go_enter Tryd.func41, Tryd.ntmps41
      go_wp2_with (first
        | ((with_reducible refine gate_dst (N := 2) rfl ?_); refine ev_box rfl rfl (r.cells A c) rfl ?_; intro g2 W1 hg2 hsz hbn; have hgr := grown_of_below hbn; have zg2 : w.heap.size ≤ g2 := (by have := HB.size; omega); replace HB := HB.grown hgr (by have := HB.size; omega) (by simp); have hcg2 := hg2.cell; have hfg2 := hg2.frozen; clear hsz hbn hgr)
        | ((with_reducible refine gate_dst (N := 4) rfl ?_); refine ev_alloc rfl rfl _ rec_zero ?_; intro g4 W2 hg4 hsz hbn; have hgr := grown_of_below hbn; have ng2g4 : g2 ≠ g4 := (by have := hg2.lt; omega); replace hg4 : Blk W2 g4 _ (Rec.zero.cells none 0) := hg4; have zg4 : w.heap.size ≤ g4 := (by have := HB.size; omega); replace hg2 := hg2.grown hgr (by simp); replace HB := HB.grown hgr (by have := HB.size; omega) (by simp); have hcg4 := hg4.cell; have hfg4 := hg4.frozen; replace hcg2 := hg2.cell; replace hfg2 := hg2.frozen; clear hsz hbn hgr)
        | ((with_reducible refine gate_dst (N := 11) rfl ?_); refine wpList_load_row rfl _ _ rfl g2 rfl _ _ (0, 0) _ hg2 Tryd.underlying27 rfl rec_size ?_)
        | (go_at_call 55; (with_reducible refine (Cc.out _ (HR.out.next HB) (hd.next HB)).mono ?_); rintro e W3 ⟨rfl, hb⟩; have hgr := grown_of_below hb; replace hg2 := hg2.grown hgr (by simp); replace hg4 := hg4.grown hgr (by simp); replace HB := HB.grown hgr (by have := HB.size; omega) (by simp); replace hcg2 := hg2.cell; replace hfg2 := hg2.frozen; replace hcg4 := hg4.cell; replace hfg4 := hg4.frozen; clear hb hgr)
        | ((with_reducible refine gate_dst (N := 29) rfl ?_); refine wpList_load_row rfl _ _ rfl g2 rfl _ _ (0, 0) _ hg2 Tryd.underlying27 rfl rec_size ?_)
        | (go_at_call 66; (with_reducible refine (Cg.out _ (hd.next HB)).mono ?_); rintro e W4 ⟨A5, c5, rfl, hd5, hb⟩; have hgr := grown_of_below hb; replace hg2 := hg2.grown hgr (by simp); replace hg4 := hg4.grown hgr (by simp); replace HB := HB.grown hgr (by have := HB.size; omega) (by simp); replace hcg2 := hg2.cell; replace hfg2 := hg2.frozen; replace hcg4 := hg4.cell; replace hfg4 := hg4.frozen; clear hb hgr)
        | ((with_reducible refine gate_dst (N := 7) rfl ?_); refine ev_alloc rfl rfl _ rec_zero ?_; intro g7 W5 hg7 hsz hbn; have hgr := grown_of_below hbn; have ng2g7 : g2 ≠ g7 := (by have := hg2.lt; omega); have ng4g7 : g4 ≠ g7 := (by have := hg4.lt; omega); replace hg7 : Blk W5 g7 _ (Rec.zero.cells none 0) := hg7; have zg7 : w.heap.size ≤ g7 := (by have := HB.size; omega); replace hd5 := hd5.kept hgr (by simp); replace hg2 := hg2.grown hgr (by simp); replace hg4 := hg4.grown hgr (by simp); replace HB := HB.grown hgr (by have := HB.size; omega) (by simp); have hcg7 := hg7.cell; have hfg7 := hg7.frozen; replace hcg2 := hg2.cell; replace hfg2 := hg2.frozen; replace hcg4 := hg4.cell; replace hfg4 := hg4.frozen; clear hsz hbn hgr)
        | ((with_reducible refine gate_store (p := 7) rfl ?_); refine ev_store_row (cs := q.cells A5 c5) rfl rfl rfl hg7 rfl rfl rec_size rfl (cells_one _ _ _) ?_; intro W6 hgn hgr; replace hd5 := hd5.kept hgr (RU.ne_blk hd5 hg7 (by decide)); replace hg2 := hg2.grown hgr (by intro e; injection e with e; omega); replace hg4 := hg4.grown hgr (by intro e; injection e with e; omega); replace HB := HB.grown hgr (by have := HB.size; omega) (by intro k e; injection e with e; omega); replace hg7 := hgn; replace hcg2 := hg2.cell; replace hfg2 := hg2.frozen; replace hcg4 := hg4.cell; replace hfg4 := hg4.frozen; replace hcg7 := hg7.cell; replace hfg7 := hg7.frozen; clear hgn hgr)
        | ((with_reducible refine gate_dst (N := 33) rfl ?_); refine wpList_load_row rfl _ _ rfl g7 rfl _ _ (0, 0) _ hg7 Tryd.underlying27 rfl rec_size ?_)
        | (go_at_call 39; (with_reducible refine (Cu.out _ _ _ (HR.out.next HB) hd5.rb).mono ?_); rintro e W7 ⟨A6, c6, rfl, hd6, hb⟩; have hgr := grown_of_below hb; replace hd5 := hd5.kept hgr (by simp); replace hg2 := hg2.grown hgr (by simp); replace hg4 := hg4.grown hgr (by simp); replace hg7 := hg7.grown hgr (by simp); replace HB := HB.grown hgr (by have := HB.size; omega) (by simp); replace hcg2 := hg2.cell; replace hfg2 := hg2.frozen; replace hcg4 := hg4.cell; replace hfg4 := hg4.frozen; replace hcg7 := hg7.cell; replace hfg7 := hg7.frozen; clear hb hgr)
        | ((with_reducible refine gate_dst (N := 8) rfl ?_); refine ev_alloc rfl rfl _ rec_zero ?_; intro g8 W8 hg8 hsz hbn; have hgr := grown_of_below hbn; have ng2g8 : g2 ≠ g8 := (by have := hg2.lt; omega); have ng4g8 : g4 ≠ g8 := (by have := hg4.lt; omega); have ng7g8 : g7 ≠ g8 := (by have := hg7.lt; omega); replace hg8 : Blk W8 g8 _ (Rec.zero.cells none 0) := hg8; have zg8 : w.heap.size ≤ g8 := (by have := HB.size; omega); replace hd6 := hd6.kept hgr (by simp); replace hd5 := hd5.kept hgr (by simp); replace hg2 := hg2.grown hgr (by simp); replace hg4 := hg4.grown hgr (by simp); replace hg7 := hg7.grown hgr (by simp); replace HB := HB.grown hgr (by have := HB.size; omega) (by simp); have hcg8 := hg8.cell; have hfg8 := hg8.frozen; replace hcg2 := hg2.cell; replace hfg2 := hg2.frozen; replace hcg4 := hg4.cell; replace hfg4 := hg4.frozen; replace hcg7 := hg7.cell; replace hfg7 := hg7.frozen; clear hsz hbn hgr)
        | ((with_reducible refine gate_store (p := 8) rfl ?_); refine ev_store_row (cs := u.cells A6 c6) rfl rfl rfl hg8 rfl rfl rec_size rfl (cells_one _ _ _) ?_; intro W9 hgn hgr; replace hd6 := hd6.kept hgr (RU.ne_blk hd6 hg8 (by decide)); replace hd5 := hd5.kept hgr (RU.ne_blk hd5 hg8 (by decide)); replace hg2 := hg2.grown hgr (by intro e; injection e with e; omega); replace hg4 := hg4.grown hgr (by intro e; injection e with e; omega); replace hg7 := hg7.grown hgr (by intro e; injection e with e; omega); replace HB := HB.grown hgr (by have := HB.size; omega) (by intro k e; injection e with e; omega); replace hg8 := hgn; replace hcg2 := hg2.cell; replace hfg2 := hg2.frozen; replace hcg4 := hg4.cell; replace hfg4 := hg4.frozen; replace hcg7 := hg7.cell; replace hfg7 := hg7.frozen; replace hcg8 := hg8.cell; replace hfg8 := hg8.frozen; clear hgn hgr)
        | ((with_reducible refine gate_dst (N := 42) rfl ?_); refine wpList_load_row rfl _ _ rfl g8 rfl _ _ (0, 0) _ hg8 Tryd.underlying27 rfl rec_size ?_)
        | ((with_reducible refine gate_dst (N := 43) rfl ?_); refine wpList_load_row rfl _ _ rfl g2 rfl _ _ (0, 0) _ hg2 Tryd.underlying27 rfl rec_size ?_)
        | (go_at_call 42; (with_reducible refine (Cs.out _ _ _ hd6.rb (hd.next HB)).mono ?_); rintro e W10 ⟨rfl, hb⟩; have hgr := grown_of_below hb; replace hd6 := hd6.kept hgr (by simp); replace hd5 := hd5.kept hgr (by simp); replace hg2 := hg2.grown hgr (by simp); replace hg4 := hg4.grown hgr (by simp); replace hg7 := hg7.grown hgr (by simp); replace hg8 := hg8.grown hgr (by simp); replace HB := HB.grown hgr (by have := HB.size; omega) (by simp); replace hcg2 := hg2.cell; replace hfg2 := hg2.frozen; replace hcg4 := hg4.cell; replace hfg4 := hg4.frozen; replace hcg7 := hg7.cell; replace hfg7 := hg7.frozen; replace hcg8 := hg8.cell; replace hfg8 := hg8.frozen; clear hb hgr)
        | ((with_reducible refine gate_dst (N := 48) rfl ?_); refine wpList_load_row rfl _ _ rfl g7 rfl _ _ (0, 0) _ hg7 Tryd.underlying27 rfl rec_size ?_)
        | ((with_reducible refine gate_store (p := 4) rfl ?_); refine ev_store_row (cs := q.cells A5 c5) rfl rfl rfl hg4 rfl rfl rec_size rfl (cells_one _ _ _) ?_; intro W11 hgn hgr; replace hd6 := hd6.kept hgr (RU.ne_blk hd6 hg4 (by decide)); replace hd5 := hd5.kept hgr (RU.ne_blk hd5 hg4 (by decide)); replace hg2 := hg2.grown hgr (by intro e; injection e with e; omega); replace hg7 := hg7.grown hgr (by intro e; injection e with e; omega); replace hg8 := hg8.grown hgr (by intro e; injection e with e; omega); replace HB := HB.grown hgr (by have := HB.size; omega) (by intro k e; injection e with e; omega); replace hg4 := hgn; replace hcg2 := hg2.cell; replace hfg2 := hg2.frozen; replace hcg4 := hg4.cell; replace hfg4 := hg4.frozen; replace hcg7 := hg7.cell; replace hfg7 := hg7.frozen; replace hcg8 := hg8.cell; replace hfg8 := hg8.frozen; clear hgn hgr))
      refine ret_row rfl hg4 rfl Tryd.underlying27 rfl rec_size rfl ?_
      exact ⟨A5, c5, rfl, hd5, HB⟩
    | false =>
      rw [e1, hF, e3 hF]
      have es : (if (false : Bool) = true then (0 : Int) else 40) = 40 := rfl
      rw [es]
      by_cases h0 : er = 0
      · subst h0
        have hne : u.same r = false := Rec.same_false (fun h => r2 hF rfl (by rw [← hur rfl, h]))
        have cs' := fun A' c' w ha hb => cs A' c' w ha hb hul hl
        rw [hne] at cs'
        have Cs := Lib.hid cs'
        clear e1 e2 e3 cc hc hb1 hb3 hR hk hlt hV r1 r2 cg cu hur huf cs cs' hF hne hqf hqz es
        go_enter Tryd.func41, Tryd.ntmps41
        go_wp2_with (first
          | ((with_reducible refine gate_dst (N := 2) rfl ?_); refine ev_box rfl rfl (r.cells A c) rfl ?_; intro g2 W1 hg2 hsz hbn; have hgr := grown_of_below hbn; have zg2 : w.heap.size ≤ g2 := (by have := HB.size; omega); replace HB := HB.grown hgr (by have := HB.size; omega) (by simp); have hcg2 := hg2.cell; have hfg2 := hg2.frozen; clear hsz hbn hgr)
          | ((with_reducible refine gate_dst (N := 4) rfl ?_); refine ev_alloc rfl rfl _ rec_zero ?_; intro g4 W2 hg4 hsz hbn; have hgr := grown_of_below hbn; have ng2g4 : g2 ≠ g4 := (by have := hg2.lt; omega); replace hg4 : Blk W2 g4 _ (Rec.zero.cells none 0) := hg4; have zg4 : w.heap.size ≤ g4 := (by have := HB.size; omega); replace hg2 := hg2.grown hgr (by simp); replace HB := HB.grown hgr (by have := HB.size; omega) (by simp); have hcg4 := hg4.cell; have hfg4 := hg4.frozen; replace hcg2 := hg2.cell; replace hfg2 := hg2.frozen; clear hsz hbn hgr)
          | ((with_reducible refine gate_dst (N := 11) rfl ?_); refine wpList_load_row rfl _ _ rfl g2 rfl _ _ (0, 0) _ hg2 Tryd.underlying27 rfl rec_size ?_)
          | (go_at_call 55; (with_reducible refine (Cc.out _ (HR.out.next HB) (hd.next HB)).mono ?_); rintro e W3 ⟨rfl, hb⟩; have hgr := grown_of_below hb; replace hg2 := hg2.grown hgr (by simp); replace hg4 := hg4.grown hgr (by simp); replace HB := HB.grown hgr (by have := HB.size; omega) (by simp); replace hcg2 := hg2.cell; replace hfg2 := hg2.frozen; replace hcg4 := hg4.cell; replace hfg4 := hg4.frozen; clear hb hgr)
          | ((with_reducible refine gate_dst (N := 29) rfl ?_); refine wpList_load_row rfl _ _ rfl g2 rfl _ _ (0, 0) _ hg2 Tryd.underlying27 rfl rec_size ?_)
          | (go_at_call 66; (with_reducible refine (Cg.out _ (hd.next HB)).mono ?_); rintro e W4 ⟨A5, c5, rfl, hd5, hb⟩; have hgr := grown_of_below hb; replace hg2 := hg2.grown hgr (by simp); replace hg4 := hg4.grown hgr (by simp); replace HB := HB.grown hgr (by have := HB.size; omega) (by simp); replace hcg2 := hg2.cell; replace hfg2 := hg2.frozen; replace hcg4 := hg4.cell; replace hfg4 := hg4.frozen; clear hb hgr)
          | ((with_reducible refine gate_dst (N := 7) rfl ?_); refine ev_alloc rfl rfl _ rec_zero ?_; intro g7 W5 hg7 hsz hbn; have hgr := grown_of_below hbn; have ng2g7 : g2 ≠ g7 := (by have := hg2.lt; omega); have ng4g7 : g4 ≠ g7 := (by have := hg4.lt; omega); replace hg7 : Blk W5 g7 _ (Rec.zero.cells none 0) := hg7; have zg7 : w.heap.size ≤ g7 := (by have := HB.size; omega); replace hd5 := hd5.kept hgr (by simp); replace hg2 := hg2.grown hgr (by simp); replace hg4 := hg4.grown hgr (by simp); replace HB := HB.grown hgr (by have := HB.size; omega) (by simp); have hcg7 := hg7.cell; have hfg7 := hg7.frozen; replace hcg2 := hg2.cell; replace hfg2 := hg2.frozen; replace hcg4 := hg4.cell; replace hfg4 := hg4.frozen; clear hsz hbn hgr)
          | ((with_reducible refine gate_store (p := 7) rfl ?_); refine ev_store_row (cs := q.cells A5 c5) rfl rfl rfl hg7 rfl rfl rec_size rfl (cells_one _ _ _) ?_; intro W6 hgn hgr; replace hd5 := hd5.kept hgr (RU.ne_blk hd5 hg7 (by decide)); replace hg2 := hg2.grown hgr (by intro e; injection e with e; omega); replace hg4 := hg4.grown hgr (by intro e; injection e with e; omega); replace HB := HB.grown hgr (by have := HB.size; omega) (by intro k e; injection e with e; omega); replace hg7 := hgn; replace hcg2 := hg2.cell; replace hfg2 := hg2.frozen; replace hcg4 := hg4.cell; replace hfg4 := hg4.frozen; replace hcg7 := hg7.cell; replace hfg7 := hg7.frozen; clear hgn hgr)
          | ((with_reducible refine gate_dst (N := 33) rfl ?_); refine wpList_load_row rfl _ _ rfl g7 rfl _ _ (0, 0) _ hg7 Tryd.underlying27 rfl rec_size ?_)
          | (go_at_call 39; (with_reducible refine (Cu.out _ _ _ (HR.out.next HB) hd5.rb).mono ?_); rintro e W7 ⟨A6, c6, rfl, hd6, hb⟩; have hgr := grown_of_below hb; replace hd5 := hd5.kept hgr (by simp); replace hg2 := hg2.grown hgr (by simp); replace hg4 := hg4.grown hgr (by simp); replace hg7 := hg7.grown hgr (by simp); replace HB := HB.grown hgr (by have := HB.size; omega) (by simp); replace hcg2 := hg2.cell; replace hfg2 := hg2.frozen; replace hcg4 := hg4.cell; replace hfg4 := hg4.frozen; replace hcg7 := hg7.cell; replace hfg7 := hg7.frozen; clear hb hgr)
          | ((with_reducible refine gate_dst (N := 8) rfl ?_); refine ev_alloc rfl rfl _ rec_zero ?_; intro g8 W8 hg8 hsz hbn; have hgr := grown_of_below hbn; have ng2g8 : g2 ≠ g8 := (by have := hg2.lt; omega); have ng4g8 : g4 ≠ g8 := (by have := hg4.lt; omega); have ng7g8 : g7 ≠ g8 := (by have := hg7.lt; omega); replace hg8 : Blk W8 g8 _ (Rec.zero.cells none 0) := hg8; have zg8 : w.heap.size ≤ g8 := (by have := HB.size; omega); replace hd6 := hd6.kept hgr (by simp); replace hd5 := hd5.kept hgr (by simp); replace hg2 := hg2.grown hgr (by simp); replace hg4 := hg4.grown hgr (by simp); replace hg7 := hg7.grown hgr (by simp); replace HB := HB.grown hgr (by have := HB.size; omega) (by simp); have hcg8 := hg8.cell; have hfg8 := hg8.frozen; replace hcg2 := hg2.cell; replace hfg2 := hg2.frozen; replace hcg4 := hg4.cell; replace hfg4 := hg4.frozen; replace hcg7 := hg7.cell; replace hfg7 := hg7.frozen; clear hsz hbn hgr)
          | ((with_reducible refine gate_store (p := 8) rfl ?_); refine ev_store_row (cs := u.cells A6 c6) rfl rfl rfl hg8 rfl rfl rec_size rfl (cells_one _ _ _) ?_; intro W9 hgn hgr; replace hd6 := hd6.kept hgr (RU.ne_blk hd6 hg8 (by decide)); replace hd5 := hd5.kept hgr (RU.ne_blk hd5 hg8 (by decide)); replace hg2 := hg2.grown hgr (by intro e; injection e with e; omega); replace hg4 := hg4.grown hgr (by intro e; injection e with e; omega); replace hg7 := hg7.grown hgr (by intro e; injection e with e; omega); replace HB := HB.grown hgr (by have := HB.size; omega) (by intro k e; injection e with e; omega); replace hg8 := hgn; replace hcg2 := hg2.cell; replace hfg2 := hg2.frozen; replace hcg4 := hg4.cell; replace hfg4 := hg4.frozen; replace hcg7 := hg7.cell; replace hfg7 := hg7.frozen; replace hcg8 := hg8.cell; replace hfg8 := hg8.frozen; clear hgn hgr)
          | ((with_reducible refine gate_dst (N := 42) rfl ?_); refine wpList_load_row rfl _ _ rfl g8 rfl _ _ (0, 0) _ hg8 Tryd.underlying27 rfl rec_size ?_)
          | ((with_reducible refine gate_dst (N := 43) rfl ?_); refine wpList_load_row rfl _ _ rfl g2 rfl _ _ (0, 0) _ hg2 Tryd.underlying27 rfl rec_size ?_)
          | (go_at_call 42; (with_reducible refine (Cs.out _ _ _ hd6.rb (hd.next HB)).mono ?_); rintro e W10 ⟨rfl, hb⟩; have hgr := grown_of_below hb; replace hd6 := hd6.kept hgr (by simp); replace hd5 := hd5.kept hgr (by simp); replace hg2 := hg2.grown hgr (by simp); replace hg4 := hg4.grown hgr (by simp); replace hg7 := hg7.grown hgr (by simp); replace hg8 := hg8.grown hgr (by simp); replace HB := HB.grown hgr (by have := HB.size; omega) (by simp); replace hcg2 := hg2.cell; replace hfg2 := hg2.frozen; replace hcg4 := hg4.cell; replace hfg4 := hg4.frozen; replace hcg7 := hg7.cell; replace hfg7 := hg7.frozen; replace hcg8 := hg8.cell; replace hfg8 := hg8.frozen; clear hb hgr)
          | ((with_reducible refine gate_store (p := 4) rfl ?_); refine ev_store_row (cs := Rec.zero.cells none 0) rfl rfl rfl hg4 rfl rfl rec_size rfl (cells_one _ _ _) ?_; intro W11 hgn hgr; replace hd6 := hd6.kept hgr (RU.ne_blk hd6 hg4 (by decide)); replace hd5 := hd5.kept hgr (RU.ne_blk hd5 hg4 (by decide)); replace hg2 := hg2.grown hgr (by intro e; injection e with e; omega); replace hg7 := hg7.grown hgr (by intro e; injection e with e; omega); replace hg8 := hg8.grown hgr (by intro e; injection e with e; omega); replace HB := HB.grown hgr (by have := HB.size; omega) (by intro k e; injection e with e; omega); replace hg4 := hgn; replace hcg2 := hg2.cell; replace hfg2 := hg2.frozen; replace hcg4 := hg4.cell; replace hfg4 := hg4.frozen; replace hcg7 := hg7.cell; replace hfg7 := hg7.frozen; replace hcg8 := hg8.cell; replace hfg8 := hg8.frozen; clear hgn hgr))
        refine ret_row rfl hg4 rfl Tryd.underlying27 rfl rec_size rfl ?_
        exact ⟨none, 0, rfl, RU.nil, HB⟩
      · have t4 := int_bne_true h0
        clear e1 e2 e3 cc hc hb1 hb3 hR hk hlt hV r1 r2 cg cu hur huf cs hF hqf hqz es h0
        go_enter Tryd.func41, Tryd.ntmps41
        go_wp2_with (first
          | ((with_reducible refine gate_dst (N := 2) rfl ?_); refine ev_box rfl rfl (r.cells A c) rfl ?_; intro g2 W1 hg2 hsz hbn; have hgr := grown_of_below hbn; have zg2 : w.heap.size ≤ g2 := (by have := HB.size; omega); replace HB := HB.grown hgr (by have := HB.size; omega) (by simp); have hcg2 := hg2.cell; have hfg2 := hg2.frozen; clear hsz hbn hgr)
          | ((with_reducible refine gate_dst (N := 4) rfl ?_); refine ev_alloc rfl rfl _ rec_zero ?_; intro g4 W2 hg4 hsz hbn; have hgr := grown_of_below hbn; have ng2g4 : g2 ≠ g4 := (by have := hg2.lt; omega); replace hg4 : Blk W2 g4 _ (Rec.zero.cells none 0) := hg4; have zg4 : w.heap.size ≤ g4 := (by have := HB.size; omega); replace hg2 := hg2.grown hgr (by simp); replace HB := HB.grown hgr (by have := HB.size; omega) (by simp); have hcg4 := hg4.cell; have hfg4 := hg4.frozen; replace hcg2 := hg2.cell; replace hfg2 := hg2.frozen; clear hsz hbn hgr)
          | ((with_reducible refine gate_dst (N := 11) rfl ?_); refine wpList_load_row rfl _ _ rfl g2 rfl _ _ (0, 0) _ hg2 Tryd.underlying27 rfl rec_size ?_)
          | (go_at_call 55; (with_reducible refine (Cc.out _ (HR.out.next HB) (hd.next HB)).mono ?_); rintro e W3 ⟨rfl, hb⟩; have hgr := grown_of_below hb; replace hg2 := hg2.grown hgr (by simp); replace hg4 := hg4.grown hgr (by simp); replace HB := HB.grown hgr (by have := HB.size; omega) (by simp); replace hcg2 := hg2.cell; replace hfg2 := hg2.frozen; replace hcg4 := hg4.cell; replace hfg4 := hg4.frozen; clear hb hgr)
          | ((with_reducible refine gate_dst (N := 29) rfl ?_); refine wpList_load_row rfl _ _ rfl g2 rfl _ _ (0, 0) _ hg2 Tryd.underlying27 rfl rec_size ?_)
          | (go_at_call 66; (with_reducible refine (Cg.out _ (hd.next HB)).mono ?_); rintro e W4 ⟨A5, c5, rfl, hd5, hb⟩; have hgr := grown_of_below hb; replace hg2 := hg2.grown hgr (by simp); replace hg4 := hg4.grown hgr (by simp); replace HB := HB.grown hgr (by have := HB.size; omega) (by simp); replace hcg2 := hg2.cell; replace hfg2 := hg2.frozen; replace hcg4 := hg4.cell; replace hfg4 := hg4.frozen; clear hb hgr)
          | ((with_reducible refine gate_dst (N := 7) rfl ?_); refine ev_alloc rfl rfl _ rec_zero ?_; intro g7 W5 hg7 hsz hbn; have hgr := grown_of_below hbn; have ng2g7 : g2 ≠ g7 := (by have := hg2.lt; omega); have ng4g7 : g4 ≠ g7 := (by have := hg4.lt; omega); replace hg7 : Blk W5 g7 _ (Rec.zero.cells none 0) := hg7; have zg7 : w.heap.size ≤ g7 := (by have := HB.size; omega); replace hd5 := hd5.kept hgr (by simp); replace hg2 := hg2.grown hgr (by simp); replace hg4 := hg4.grown hgr (by simp); replace HB := HB.grown hgr (by have := HB.size; omega) (by simp); have hcg7 := hg7.cell; have hfg7 := hg7.frozen; replace hcg2 := hg2.cell; replace hfg2 := hg2.frozen; replace hcg4 := hg4.cell; replace hfg4 := hg4.frozen; clear hsz hbn hgr)
          | ((with_reducible refine gate_store (p := 7) rfl ?_); refine ev_store_row (cs := q.cells A5 c5) rfl rfl rfl hg7 rfl rfl rec_size rfl (cells_one _ _ _) ?_; intro W6 hgn hgr; replace hd5 := hd5.kept hgr (RU.ne_blk hd5 hg7 (by decide)); replace hg2 := hg2.grown hgr (by intro e; injection e with e; omega); replace hg4 := hg4.grown hgr (by intro e; injection e with e; omega); replace HB := HB.grown hgr (by have := HB.size; omega) (by intro k e; injection e with e; omega); replace hg7 := hgn; replace hcg2 := hg2.cell; replace hfg2 := hg2.frozen; replace hcg4 := hg4.cell; replace hfg4 := hg4.frozen; replace hcg7 := hg7.cell; replace hfg7 := hg7.frozen; clear hgn hgr)
          | ((with_reducible refine gate_dst (N := 33) rfl ?_); refine wpList_load_row rfl _ _ rfl g7 rfl _ _ (0, 0) _ hg7 Tryd.underlying27 rfl rec_size ?_)
          | (go_at_call 39; (with_reducible refine (Cu.out _ _ _ (HR.out.next HB) hd5.rb).mono ?_); rintro e W7 ⟨A6, c6, rfl, hd6, hb⟩; have hgr := grown_of_below hb; replace hd5 := hd5.kept hgr (by simp); replace hg2 := hg2.grown hgr (by simp); replace hg4 := hg4.grown hgr (by simp); replace hg7 := hg7.grown hgr (by simp); replace HB := HB.grown hgr (by have := HB.size; omega) (by simp); replace hcg2 := hg2.cell; replace hfg2 := hg2.frozen; replace hcg4 := hg4.cell; replace hfg4 := hg4.frozen; replace hcg7 := hg7.cell; replace hfg7 := hg7.frozen; clear hb hgr)
          | ((with_reducible refine gate_dst (N := 8) rfl ?_); refine ev_alloc rfl rfl _ rec_zero ?_; intro g8 W8 hg8 hsz hbn; have hgr := grown_of_below hbn; have ng2g8 : g2 ≠ g8 := (by have := hg2.lt; omega); have ng4g8 : g4 ≠ g8 := (by have := hg4.lt; omega); have ng7g8 : g7 ≠ g8 := (by have := hg7.lt; omega); replace hg8 : Blk W8 g8 _ (Rec.zero.cells none 0) := hg8; have zg8 : w.heap.size ≤ g8 := (by have := HB.size; omega); replace hd6 := hd6.kept hgr (by simp); replace hd5 := hd5.kept hgr (by simp); replace hg2 := hg2.grown hgr (by simp); replace hg4 := hg4.grown hgr (by simp); replace hg7 := hg7.grown hgr (by simp); replace HB := HB.grown hgr (by have := HB.size; omega) (by simp); have hcg8 := hg8.cell; have hfg8 := hg8.frozen; replace hcg2 := hg2.cell; replace hfg2 := hg2.frozen; replace hcg4 := hg4.cell; replace hfg4 := hg4.frozen; replace hcg7 := hg7.cell; replace hfg7 := hg7.frozen; clear hsz hbn hgr)
          | ((with_reducible refine gate_store (p := 8) rfl ?_); refine ev_store_row (cs := u.cells A6 c6) rfl rfl rfl hg8 rfl rfl rec_size rfl (cells_one _ _ _) ?_; intro W9 hgn hgr; replace hd6 := hd6.kept hgr (RU.ne_blk hd6 hg8 (by decide)); replace hd5 := hd5.kept hgr (RU.ne_blk hd5 hg8 (by decide)); replace hg2 := hg2.grown hgr (by intro e; injection e with e; omega); replace hg4 := hg4.grown hgr (by intro e; injection e with e; omega); replace hg7 := hg7.grown hgr (by intro e; injection e with e; omega); replace HB := HB.grown hgr (by have := HB.size; omega) (by intro k e; injection e with e; omega); replace hg8 := hgn; replace hcg2 := hg2.cell; replace hfg2 := hg2.frozen; replace hcg4 := hg4.cell; replace hfg4 := hg4.frozen; replace hcg7 := hg7.cell; replace hfg7 := hg7.frozen; replace hcg8 := hg8.cell; replace hfg8 := hg8.frozen; clear hgn hgr)
          | ((with_reducible refine gate_store (p := 4) rfl ?_); refine ev_store_row (cs := Rec.zero.cells none 0) rfl rfl rfl hg4 rfl rfl rec_size rfl (cells_one _ _ _) ?_; intro W10 hgn hgr; replace hd6 := hd6.kept hgr (RU.ne_blk hd6 hg4 (by decide)); replace hd5 := hd5.kept hgr (RU.ne_blk hd5 hg4 (by decide)); replace hg2 := hg2.grown hgr (by intro e; injection e with e; omega); replace hg7 := hg7.grown hgr (by intro e; injection e with e; omega); replace hg8 := hg8.grown hgr (by intro e; injection e with e; omega); replace HB := HB.grown hgr (by have := HB.size; omega) (by intro k e; injection e with e; omega); replace hg4 := hgn; replace hcg2 := hg2.cell; replace hfg2 := hg2.frozen; replace hcg4 := hg4.cell; replace hfg4 := hg4.frozen; replace hcg7 := hg7.cell; replace hfg7 := hg7.frozen; replace hcg8 := hg8.cell; replace hfg8 := hg8.frozen; clear hgn hgr))
        refine ret_row rfl hg4 rfl Tryd.underlying27 rfl rec_size rfl ?_
        exact ⟨none, 0, rfl, RU.nil, HB⟩
  · have t1 := int_bne_true hc
    have e1 : downE r to = r.chk := by unfold downE; rw [if_pos hc]
    have e2 : downR r to = Rec.zero := by unfold downR; rw [e1, if_neg hc]
    rw [e1, e2]
    have Cc := Lib.hid cc
    clear hc e1 e2 cc hR
    go_enter Tryd.func41, Tryd.ntmps41
    go_wp2_with (first
      | ((with_reducible refine gate_dst (N := 2) rfl ?_); refine ev_box rfl rfl (r.cells A c) rfl ?_; intro g2 W1 hg2 hsz hbn; have hgr := grown_of_below hbn; have zg2 : w.heap.size ≤ g2 := (by have := HB.size; omega); replace HB := HB.grown hgr (by have := HB.size; omega) (by simp); have hcg2 := hg2.cell; have hfg2 := hg2.frozen; clear hsz hbn hgr)
      | ((with_reducible refine gate_dst (N := 4) rfl ?_); refine ev_alloc rfl rfl _ rec_zero ?_; intro g4 W2 hg4 hsz hbn; have hgr := grown_of_below hbn; have ng2g4 : g2 ≠ g4 := (by have := hg2.lt; omega); replace hg4 : Blk W2 g4 _ (Rec.zero.cells none 0) := hg4; have zg4 : w.heap.size ≤ g4 := (by have := HB.size; omega); replace hg2 := hg2.grown hgr (by simp); replace HB := HB.grown hgr (by have := HB.size; omega) (by simp); have hcg4 := hg4.cell; have hfg4 := hg4.frozen; replace hcg2 := hg2.cell; replace hfg2 := hg2.frozen; clear hsz hbn hgr)
      | ((with_reducible refine gate_dst (N := 11) rfl ?_); refine wpList_load_row rfl _ _ rfl g2 rfl _ _ (0, 0) _ hg2 Tryd.underlying27 rfl rec_size ?_)
      | (go_at_call 55; (with_reducible refine (Cc.out _ (HR.out.next HB) (hd.next HB)).mono ?_); rintro e W3 ⟨rfl, hb⟩; have hgr := grown_of_below hb; replace hg2 := hg2.grown hgr (by simp); replace hg4 := hg4.grown hgr (by simp); replace HB := HB.grown hgr (by have := HB.size; omega) (by simp); replace hcg2 := hg2.cell; replace hfg2 := hg2.frozen; replace hcg4 := hg4.cell; replace hfg4 := hg4.frozen; clear hb hgr)
      | ((with_reducible refine gate_store (p := 4) rfl ?_); refine ev_store_row (cs := Rec.zero.cells none 0) rfl rfl rfl hg4 rfl rfl rec_size rfl (cells_one _ _ _) ?_; intro W4 hgn hgr; replace hg2 := hg2.grown hgr (by intro e; injection e with e; omega); replace HB := HB.grown hgr (by have := HB.size; omega) (by intro k e; injection e with e; omega); replace hg4 := hgn; replace hcg2 := hg2.cell; replace hfg2 := hg2.frozen; replace hcg4 := hg4.cell; replace hfg4 := hg4.frozen; clear hgn hgr))
    refine ret_row rfl hg4 rfl Tryd.underlying27 rfl rec_size rfl ?_
    exact ⟨none, 0, rfl, RU.nil, HB⟩

end Go.Proofs.YtikodgaomhmbmaaDoor
namespace Go.Proofs.YtikodgaomhmbmaaDoor
open Go.RowKit
attribute [local go_sem] Rec.size_ Rec.g0 Rec.g1 Rec.g2 Rec.g3 Rec.g4 Rec.g5 Rec.g6 Rec.g7 Rec.g8 Rec.g9 Rec.g10 Rec.g11 Rec.fold Rec.lit_fold

set_option maxHeartbeats 2000000 in
set_option maxRecDepth 100000 in
theorem refUpAll_calls (to : Int) (l : List RA) (A : Option Addr) (c : Nat) (hl : l.length * 120 ≤ 140737488351232) (hfit : ∀ y ∈ l, y.1.Fits) (hnm : ∀ y ∈ l, y.1.Name.size ≤ 1099511627776) (w : World) (hT : RTabs w) (hr : RR w A l) :
    Calls Tryd.prog 22 #[.int .i64 to, .slice A l.length c] w (UpAllSaid to l w) := by
  have HB := Below.refl w.heap.size w
  have HT := Lib.hid hT
  have Hr := Lib.hid hr
  have Hfit := Lib.hid hfit
  have Hnm := Lib.hid hnm
  clear hT hr hfit hnm
  by_cases hk0 : known to = true
  case neg =>
    have hk : known to = false := by simpa using hk0
    have e1 : upAllAt to (l.map (·.1)) = 0 := by unfold upAllAt; rw [hk]; rfl
    have e2 : upAllE to (l.map (·.1)) = 3 := by unfold upAllE; rw [hk]; rfl
    have e3 : upAllR to (l.map (·.1)) = [] := by unfold upAllR; rw [e2]; rfl
    unfold UpAllSaid
    rw [e1, e2, e3]
    by_cases hb1 : to < 1
    · have t1 : decide (to < 1) = true := decide_eq_true hb1
      clear e1 e2 e3 hk hk0 hb1
      go_enter Tryd.func22, Tryd.ntmps22
      go_wp2
      go_ret3
      exact ⟨none, 0, [], rfl, rfl, own_nil _ _ _ _, RUs.nil, HB⟩
    · have t1 : decide (to < 1) = false := decide_eq_false hb1
      have t2 : decide (3 < to) = true := decide_eq_true (by
        have := hk0
        rw [known_range] at this
        omega)
      clear e1 e2 e3 hk hk0 hb1
      go_enter Tryd.func22, Tryd.ntmps22
      go_wp2
      go_ret3
      exact ⟨none, 0, [], rfl, rfl, own_nil _ _ _ _, RUs.nil, HB⟩
  have hk := hk0
  rw [known_range] at hk0
  have t1 : decide (to < 1) = false := decide_eq_false (by omega)
  have t2 : decide (3 < to) = false := decide_eq_false (by omega)
  have e1 : upAllAt to (l.map (·.1)) = upsAt to (l.map (·.1)) 0 := by unfold upAllAt; rw [hk]; rfl
  have e2 : upAllE to (l.map (·.1)) = upsE to (l.map (·.1)) := by unfold upAllE; rw [hk]; rfl
  have E1 := Lib.hid e1
  have E2 := Lib.hid e2
  clear e1 e2 hk hk0
  go_enter Tryd.func22, Tryd.ntmps22
  go_wp2
  go_loopg [7, 8] l.length (fun n v7 v8 wr => ∃ (k : Nat) (A' : Option Addr) (c' : Nat) (os : List RA), n + k = l.length ∧ v8 = .int .i64 k ∧ v7 = .slice A' os.length c' ∧
    Aside (os.length = k ∧ upsAt to (l.map (·.1)) 0 = upsAt to ((l.map (·.1)).drop k) k ∧ upsE to (l.map (·.1)) = upsE to ((l.map (·.1)).drop k) ∧ os.map (·.1) = ((l.map (·.1)).take k).map (fun r => upR r to) ∧
      wr.ownsRow w.heap.size 27 12 (.slice A' os.length c') os.length (recCells os) ∧ RUs wr os ∧ Below w.heap.size w wr))
  case atStart => exact ⟨0, none, 0, [], by omega, rfl, rfl, ⟨rfl, rfl, rfl, by simp, own_nil _ _ _ _, RUs.nil, HB⟩⟩
  case round =>
    clear HB
    obtain ⟨k, A2, c2, os, hn, rfl, rfl, HA⟩ := hrel
    obtain ⟨hok, hat, he, hos, o1, So, HB⟩ := HA.out
    clear HA
    have Hat := Lib.hid hat
    have Hok := Lib.hid hok
    have He := Lib.hid he
    have Hos := Lib.hid hos
    clear hat he hos hok
    by_cases hlt : k < l.length
    · have s1 : decide ((k : Int) < (l.length : Int)) = true := by rw [decide_eq_true_eq]; omega
      have s1' : decide (k < l.length) = true := by rw [decide_eq_true_eq]; exact hlt
      obtain ⟨x, hx⟩ : ∃ x, l[k]? = some x := ⟨l[k], List.getElem?_eq_getElem hlt⟩
      obtain ⟨r, Ar, cr⟩ := x
      have hxm : (l.map (·.1))[k]? = some r := by rw [List.getElem?_map, hx]; rfl
      have hxf : r.Fits := Hfit.out _ (List.mem_of_getElem? hx)
      have hxz : r.Name.size ≤ 1099511627776 := Hnm.out _ (List.mem_of_getElem? hx)
      have hxd : RB w Ar r.Data := Hr.out.data _ (List.mem_of_getElem? hx)
      obtain ⟨ad, had, hadlt, _⟩ := Hr.out.get hx
      have hld := fun (W : World) (hb : Below w.heap.size w W) => (Hr.out.next hb).load hx had
      have Hld := Lib.hid hld
      subst had
      clear hx hld
      have cu := fun (W : World) => refUp_calls r Ar cr to hxf hxz W
      unfold MoveSaid at cu
      by_cases hu : upE r to = 0
      · generalize hgu : upR r to = u at cu
        rw [hu] at cu
        have n1 : upsAt to (l.map (·.1)) 0 = upsAt to ((l.map (·.1)).drop (k + 1)) (k + 1) := by rw [Hat.out, upsAt_drop hxm, if_pos hu]
        have n2 : upsE to (l.map (·.1)) = upsE to ((l.map (·.1)).drop (k + 1)) := by rw [He.out, upsE_drop hxm, if_pos hu]
        have n3 : ((l.map (·.1)).take (k + 1)).map (fun r => upR r to) = ((l.map (·.1)).take k).map (fun r => upR r to) ++ [u] := by rw [List.take_add_one, hxm]; simp [hgu]
        have N1 := Lib.hid n1
        have N2 := Lib.hid n2
        have N3 := Lib.hid n3
        have Cu := Lib.hid cu
        clear n1 n2 n3 hu hxm Hat He cu hgu
        go_wp2_with (first
          | ((with_reducible refine gate_dst (N := 27) rfl ?_); refine ev_load_at rfl rfl rfl (Hld.out _ HB) Tryd.underlying27 rfl rec_size ?_)
          | (go_at_call 39; (with_reducible refine (Cu.out _ (HT.out.next HB) (hxd.next HB)).mono ?_); rintro e W1 ⟨A5, c5, rfl, hd5, hb⟩; have hgr := grown_of_below hb; replace So := So.kept hgr (by simp); replace o1 := o1.kept hgr (by cases Value.ownBlock _ <;> simp); replace HB := HB.grown hgr (by have := HB.size; omega) (by simp); clear hb hgr)
          | ((with_reducible refine gate_dst (N := 9) rfl ?_); refine ev_alloc rfl rfl _ rec_zero ?_; intro g4 W2 hg4 hsz hbn; have hgr := grown_of_below hbn; have no1g4 := own_new o1 hsz; replace hg4 : Blk W2 g4 _ (Rec.zero.cells none 0) := hg4; have zg4 : w.heap.size ≤ g4 := (by have := HB.size; omega); replace hd5 := hd5.kept hgr (by simp); replace So := So.kept hgr (by simp); replace o1 := o1.kept hgr (by cases Value.ownBlock _ <;> simp); replace HB := HB.grown hgr (by have := HB.size; omega) (by simp); have hcg4 := hg4.cell; have hfg4 := hg4.frozen; clear hsz hbn hgr)
          | ((with_reducible refine gate_store (p := 9) rfl ?_); refine ev_store_row (cs := u.cells A5 c5) rfl rfl rfl hg4 rfl rfl rec_size rfl (cells_one _ _ _) ?_; intro W3 hgn hgr; replace hd5 := hd5.kept hgr (RU.ne_blk hd5 hg4 (by decide)); replace So := So.kept hgr (RUs.ne_blk So hg4 (by decide)); replace o1 := o1.kept hgr (.inr no1g4); replace HB := HB.grown hgr (by have := HB.size; omega) (by intro k e; injection e with e; omega); replace hg4 := hgn; replace hcg4 := hg4.cell; replace hfg4 := hg4.frozen; clear hgn hgr)
          | ((with_reducible refine gate_dst (N := 37) rfl ?_); refine wpList_load_row rfl _ _ rfl g4 rfl _ _ (0, 0) _ hg4 Tryd.underlying27 rfl rec_size ?_)
          | ((with_reducible refine gate_dst (N := 38) rfl ?_); refine ev_lit rfl rfl (u.cells A5 c5) 27 1 (by first | (go_simp; done) | (go_simp; rfl)) ?_; intro g5 W4 hg5 hsz hbn; have hgr := grown_of_below hbn; have ng4g5 : g4 ≠ g5 := (by have := hg4.lt; omega); have zg5 : w.heap.size ≤ g5 := (by have := HB.size; omega); replace hd5 := hd5.kept hgr (by simp); replace So := So.kept hgr (by simp); replace hg4 := hg4.grown hgr (by simp); replace o1 := o1.kept hgr (by cases Value.ownBlock _ <;> simp); replace HB := HB.grown hgr (by have := HB.size; omega) (by simp); have hcg5 := hg5.cell; have hfg5 := hg5.frozen; replace hcg4 := hg4.cell; replace hfg4 := hg4.frozen; clear hsz hbn hgr)
          | ((with_reducible refine gate_dst (N := 39) rfl ?_); refine ev_append rfl rfl Tryd.underlying22 info_rec rfl (by omega) rfl o1 rfl (hg5.reads (size := 12) (n := 1) rfl) (recCells_1 (l := [(u, A5, c5)])) (by have := Hok.out; omega) (by omega) (by have := HB.size; omega) ?_; intro A6 c6 W5 on hgr hat; replace hd5 := hd5.kept hgr (RU.ne_own hd5 o1 (by decide)); replace So := So.kept hgr (RUs.ne_own So o1 (by decide)); replace hg4 := hg4.grown hgr (fun e => no1g4 e.symm); replace HB := HB.grown hgr (by have := HB.size; omega) (own_base o1); replace o1 := on; replace hcg4 := hg4.cell; replace hfg4 := hg4.frozen; clear on hgr hat))
        go_roundg (gk - 1)
        case measure => omega
        case rel => exact ⟨k + 1, A6, c6, os ++ [(u, A5, c5)], by omega, by go_num, by simp, ⟨by simp [Hok.out], N1.out, N2.out, by rw [List.map_append, Hos.out, N3.out]; rfl, by rw [recCells_append, recCells_one]; simpa [RA.cs] using o1, So.snoc hd5, HB⟩⟩
      · have t0 := int_bne_true hu
        have n1 : upAllAt to (l.map (·.1)) = k := by rw [E1.out, Hat.out, upsAt_drop hxm, if_neg hu]
        have n2 : upAllE to (l.map (·.1)) = upE r to := by rw [E2.out, He.out, upsE_drop hxm, if_neg hu]
        have n3 : upAllR to (l.map (·.1)) = [] := by unfold upAllR; rw [n2, if_neg hu]
        have N1 := Lib.hid n1
        have N2 := Lib.hid n2
        have N3 := Lib.hid n3
        have Cu := Lib.hid cu
        clear n1 n2 n3 hu hxm Hat He cu
        go_wp2_with (first
          | ((with_reducible refine gate_dst (N := 27) rfl ?_); refine ev_load_at rfl rfl rfl (Hld.out _ HB) Tryd.underlying27 rfl rec_size ?_)
          | (go_at_call 39; (with_reducible refine (Cu.out _ (HT.out.next HB) (hxd.next HB)).mono ?_); rintro e W1 ⟨A5, c5, rfl, hd5, hb⟩; have hgr := grown_of_below hb; replace HB := HB.grown hgr (by have := HB.size; omega) (by simp); clear hb hgr)
          | ((with_reducible refine gate_dst (N := 9) rfl ?_); refine ev_alloc rfl rfl _ rec_zero ?_; intro g4 W2 hg4 hsz hbn; have hgr := grown_of_below hbn; replace hg4 : Blk W2 g4 _ (Rec.zero.cells none 0) := hg4; have zg4 : w.heap.size ≤ g4 := (by have := HB.size; omega); replace HB := HB.grown hgr (by have := HB.size; omega) (by simp); have hcg4 := hg4.cell; have hfg4 := hg4.frozen; clear hsz hbn hgr)
          | ((with_reducible refine gate_store (p := 9) rfl ?_); refine ev_store_row (cs := (upR r to).cells A5 c5) rfl rfl rfl hg4 rfl rfl rec_size rfl (cells_one _ _ _) ?_; intro W3 hgn hgr; replace HB := HB.grown hgr (by have := HB.size; omega) (by intro k e; injection e with e; omega); replace hg4 := hgn; replace hcg4 := hg4.cell; replace hfg4 := hg4.frozen; clear hgn hgr))
        go_ret3
        exact ⟨none, 0, [], by rw [N1.out, N2.out]; rfl, N3.out.symm, own_nil _ _ _ _, RUs.nil, HB⟩
    · have s1 : decide ((k : Int) < (l.length : Int)) = false := by rw [decide_eq_false_iff_not]; omega
      have s1' : decide (k < l.length) = false := by rw [decide_eq_false_iff_not]; exact hlt
      obtain rfl : k = l.length := by omega
      have n1 : upAllAt to (l.map (·.1)) = 0 := by rw [E1.out, Hat.out, List.drop_eq_nil_of_le (by simp)]; rfl
      have n2 : upAllE to (l.map (·.1)) = 0 := by rw [E2.out, He.out, List.drop_eq_nil_of_le (by simp)]; rfl
      have n3 : upAllR to (l.map (·.1)) = os.map (·.1) := by unfold upAllR; rw [n2, if_pos rfl, Hos.out, List.take_of_length_le (by simp)]
      go_wp2
      go_ret3
      exact ⟨A2, c2, os, by rw [n1, n2]; rfl, n3.symm, o1, So, HB⟩

theorem steps_unknown {a b : Int} (h : ¬ (known a = true ∧ known b = true)) : stepsL a b = [] := by
  rw [known_range, known_range] at h
  unfold stepsL
  rw [if_neg (by omega), if_neg (by omega), if_neg (by omega), if_neg (by omega), if_neg (by omega), if_neg (by omega)]
end Go.Proofs.YtikodgaomhmbmaaDoor
