/-
  The walk of lift.turned.
-/
import Derived.Test.YtjhiohjpkdjkoaaDoorD1
set_option linter.unusedVariables false
set_option linter.unusedSimpArgs false
namespace Go.Proofs.YtjhiohjpkdjkoaaDoor
open Go.RowKit
attribute [local go_sem] Rec.size_ Rec.g0 Rec.g1 Rec.g2 Rec.g3 Rec.g4 Rec.g5 Rec.g6 Rec.g7 Rec.g8 Rec.g9 Rec.g10 Rec.g11 Rec.fold stepCells_size stepCells_0 stepCells_1 stepCells_2 stepCells_3

section
variable {P : Program} {ops : Array Oper} {rest : List Oper} {o : Oper} {a : Act} {Q : Exit → Act → World → Prop} {W : World}
/-- A function of the program that is called by its value. -/
def Coded (P : Program) (f : FuncId) : Prop := ∃ fn c, P.funcs[f]? = some fn ∧ (fn.name == "runtime.NumGoroutine") = false ∧ fn.body = some c
theorem ev_call_value (hgd : o.guard = none) {x y : Operand} {ats : Array TypeId} (ho : o.op = .call { callee := .value x, args := #[y], argTypes := ats }) {f : FuncId} (hx : a.eval x = .func (.func f) #[] #[]) (hf : Coded P f) {v : Value} (hy : a.eval y = v)
    (h : Calls P f #[v] W fun e w' => ∃ u, e = .returned u ∧ wpList P ops Q rest (a.put o.dst u) w') : wpList P ops Q (o :: rest) a W := by
  obtain ⟨fn, c, h1, h2, h3⟩ := hf
  have hrun : (execOp a.eval o).run P W = .ok (.enter f #[v]) W := by
    simp [execOp, ho, resolve, Deferred.ofValue, hx, hy, invoke, callFunc, Sem.run_bind, h1, beq_eq_false_iff_ne.1 h2, h3, Result.andThen]
  refine wpList_plain hgd fun K hK => ?_
  unfold Oper.wp
  rw [hrun, Oper.upon_enter]
  exact h.mono fun e w' ⟨u, he, hw⟩ => by subst he; exact hK _ _ hw
end
theorem hop_coded (a b : Int) : Coded Tryd.prog (hopFn a b) := by
  unfold hopFn
  repeat' split
  · exact ⟨_, _, Tryd.func125, by kernel_rfl, rfl⟩
  · exact ⟨_, _, Tryd.func126, by kernel_rfl, rfl⟩
  · exact ⟨_, _, Tryd.func127, by kernel_rfl, rfl⟩
  · exact ⟨_, _, Tryd.func109, by kernel_rfl, rfl⟩

theorem turn_step {q : Rec} {to : Int} (hv : Ver q.V) (ht : Ver to) (hne : q.V ≠ to) :
    (hopF q.V to q = true → turnR q to = turnR { hopR q.V to q with V := hopTo q.V to } to ∧ turnF q to = turnF { hopR q.V to q with V := hopTo q.V to } to) ∧ (hopF q.V to q = false → turnR q to = Rec.zero ∧ turnF q to = false) := by
  have hs := hop_steps hv ht hne
  unfold turnR turnF
  rw [hs]
  refine ⟨fun h => ⟨?_, ?_⟩, fun h => ⟨?_, ?_⟩⟩
  · show turnN (_ + 1) q to = _
    rw [turnN, if_pos h]
  · show turnB (_ + 1) q to = _
    rw [turnB, if_pos h]
  · show turnN (_ + 1) q to = _
    rw [turnN, if_neg (by rw [h]; decide)]
  · show turnB (_ + 1) q to = _
    rw [turnB, if_neg (by rw [h]; decide)]
/-- Each step from a towards b does as it should. -/
def HopsTo (b : Int) (v : Int → Prop) : Prop := ∀ (a : Int) (q : Rec) (A : Option Addr) (c : Nat) (w : World), v a → Ver a → a ≠ b → q.Fits → RU w A q.Data → HopSaid Tryd.prog (hopFn a b) (hopR a b q) (hopF a b q) q A c w

set_option maxHeartbeats 2000000 in
set_option maxRecDepth 100000 in
theorem turnedBy_calls (to : Int) (hto : Ver to) (v : Int → Prop) (hops : HopsTo to v) (hv : ∀ a, v a → Ver a → a ≠ to → v (hopTo a to)) (r : Rec) (A : Option Addr) (c : Nat) (hf : r.Fits) (hr : Ver r.V) (hrv : v r.V) (w : World) (ht : Tab w 2 waysL) (hd : RB w A r.Data) :
    Calls Tryd.prog 88 #[.agg (r.cells A c), .int .i64 to] w fun e w' => ∃ A' c', e = .returned (.tuple #[.agg ((turnR r to).cells A' c'), .bool (turnF r to)]) ∧ RU w' A' (turnR r to).Data ∧ Below w.heap.size w w' := by
  have HB := Below.refl w.heap.size w
  have Ht := Lib.hid ht
  have Hto := Lib.hid hto
  have Hops := Lib.hid hops
  have Hr := Lib.hid hr
  have Hrv := Lib.hid hrv
  have Hv := Lib.hid hv
  clear ht hto hops hr hrv hv
  go_enter Tryd.func88, Tryd.ntmps88
  go_wp2_with (first
    | ((with_reducible refine gate_dst (N := 2) rfl ?_); refine ev_box rfl rfl (r.cells A c) rfl ?_; intro g1 W1 hg1 hsz hbn; have hgr := grown_of_below hbn; have zg1 : w.heap.size ≤ g1 := (by have := HB.size; omega); replace HB := HB.grown hgr (by have := HB.size; omega) (by simp); have hcg1 := hg1.cell; have hfg1 := hg1.frozen; clear hsz hbn hgr)
    | ((with_reducible refine gate_dst (N := 4) rfl ?_); refine ev_alloc rfl rfl _ rec_zero ?_; intro g2 W2 hg2 hsz hbn; have hgr := grown_of_below hbn; have ng1g2 : g1 ≠ g2 := (by have := hg1.lt; omega); replace hg2 : Blk W2 g2 _ (Rec.zero.cells none 0) := hg2; have zg2 : w.heap.size ≤ g2 := (by have := HB.size; omega); replace hg1 := hg1.grown hgr (by simp); replace HB := HB.grown hgr (by have := HB.size; omega) (by simp); have hcg2 := hg2.cell; have hfg2 := hg2.frozen; replace hcg1 := hg1.cell; replace hfg1 := hg1.frozen; clear hsz hbn hgr)
    | ((with_reducible refine gate_dst (N := 8) rfl ?_); refine wpList_load_row rfl _ _ rfl g1 rfl _ _ (0, 0) _ hg1 Tryd.underlying35 rfl rec_size ?_)
    | (go_at_call 46; (with_reducible refine (clone_calls r A c _ (hd.next HB) hf.data).mono ?_); rintro e W3 ⟨A3, c3, rfl, o3, hb⟩; have hgr := grown_of_below hb; replace o3 := own_mono o3 HB.size; replace hg1 := hg1.grown hgr (by simp); replace hg2 := hg2.grown hgr (by simp); replace HB := HB.grown hgr (by have := HB.size; omega) (by simp); replace hcg1 := hg1.cell; replace hfg1 := hg1.frozen; replace hcg2 := hg2.cell; replace hfg2 := hg2.frozen; clear hb hgr)
    | ((with_reducible refine gate_store (p := 2) rfl ?_); refine ev_store_row (cs := r.cells A3 c3) rfl rfl rfl hg1 rfl rfl rec_size rfl (cells_one _ _ _) ?_; intro W4 hgn hgr; replace hg2 := hg2.grown hgr (by intro e; injection e with e; omega); replace o3 := o3.kept hgr (.inr (own_blk_ne o3 hg1 (by decide))); replace HB := HB.grown hgr (by have := HB.size; omega) (by intro k e; injection e with e; omega); replace hg1 := hgn; replace hcg1 := hg1.cell; replace hfg1 := hg1.frozen; replace hcg2 := hg2.cell; replace hfg2 := hg2.frozen; clear hgn hgr))
  have hd3 : RU _ A3 r.Data := RU.of_own o3
  go_loopg [5] (stepsL r.V to).length (fun n v5 wr => ∃ (q : Rec) (A : Option Addr) (c : Nat), v5 = .bool false ∧ n = (stepsL q.V to).length ∧ Aside (Ver q.V ∧ v q.V ∧ q.Fits ∧ turnR q to = turnR r to ∧ turnF q to = turnF r to ∧
    Blk wr g1 _ (q.cells A c) ∧ Blk wr g2 _ (Rec.zero.cells none 0) ∧ RU wr A q.Data ∧ Below w.heap.size w wr))
  case atStart => exact ⟨r, A3, c3, rfl, rfl, ⟨Hr.out, Hrv.out, hf, rfl, rfl, hg1, hg2, hd3, HB⟩⟩
  case round =>
    clear hd3 hg1 hg2 o3 HB hcg1 hcg2 hfg1 hfg2
    obtain ⟨q, Aq, cq, rfl, hn, HA⟩ := hrel
    obtain ⟨hver, hvq, hfq, htr, htf, hg1, hg2, hdq, HB⟩ := HA.out
    clear HA
    have hcg1 := hg1.cell
    have hfg1 := hg1.frozen
    have hcg2 := hg2.cell
    have hfg2 := hg2.frozen
    have Htr := Lib.hid htr
    have Htf := Lib.hid htf
    have Hver := Lib.hid hver
    have Hvq := Lib.hid hvq
    clear htr htf hver hvq
    by_cases hab : q.V = to
    · have t1 := int_bne_false hab
      have hself := turn_self hab
      have Eq := Lib.hid (Htr.out.symm.trans hself.1)
      have Ef := Lib.hid (Htf.out.symm.trans hself.2)
      clear hab hself
      go_wp2_with (first
        | ((with_reducible refine gate_dst (N := 32) rfl ?_); refine wpList_load_row rfl _ _ rfl g1 rfl _ _ (0, 0) _ hg1 Tryd.underlying35 rfl rec_size ?_)
        | ((with_reducible refine gate_store (p := 4) rfl ?_); refine ev_store_row (cs := q.cells Aq cq) rfl rfl rfl hg2 rfl rfl rec_size rfl (cells_one _ _ _) ?_; intro W1 hgn hgr; replace hdq := hdq.kept hgr (RU.ne_blk hdq hg2 (by decide)); replace hg1 := hg1.grown hgr (by intro e; injection e with e; omega); replace HB := HB.grown hgr (by have := HB.size; omega) (by intro k e; injection e with e; omega); replace hg2 := hgn; replace hcg1 := hg1.cell; replace hfg1 := hg1.frozen; replace hcg2 := hg2.cell; replace hfg2 := hg2.frozen; clear hgn hgr))
      refine ret_row rfl hg2 rfl Tryd.underlying35 rfl rec_size rfl ?_
      exact ⟨Aq, cq, by rw [Eq.out, Ef.out]; rfl, by rw [Eq.out]; exact hdq, HB⟩
    · have t1 := int_bne_true hab
      have hs := hop_steps Hver.out Hto.out hab
      have hts := turn_step Hver.out Hto.out hab
      have Hab := Lib.hid hab
      have Hs := Lib.hid hs
      clear hab hs
      cases hF : hopF q.V to q
      · have hq := hts.2 hF
        have Eq := Lib.hid (Htr.out.symm.trans hq.1)
        have Ef := Lib.hid (Htf.out.symm.trans hq.2)
        have hh := fun (A : Option Addr) (c : Nat) (w : World) => Hops.out q.V q A c w Hvq.out Hver.out Hab.out hfq
        rw [hF] at hh
        unfold HopSaid at hh
        have Hh := Lib.hid hh
        clear hq hts hF hh
        go_wp2_with (first
          | (go_at_call 87; (with_reducible refine (next_calls Hver.out Hto.out Hab.out _ (Ht.out.next HB)).mono ?_); rintro e W1 ⟨rfl, hb⟩; have hgr := grown_of_below hb; replace hdq := hdq.kept hgr (by simp); replace hg1 := hg1.grown hgr (by simp); replace hg2 := hg2.grown hgr (by simp); replace HB := HB.grown hgr (by have := HB.size; omega) (by simp); replace hcg1 := hg1.cell; replace hfg1 := hg1.frozen; replace hcg2 := hg2.cell; replace hfg2 := hg2.frozen; clear hb hgr)
          | ((with_reducible refine gate_dst (N := 6) rfl ?_); refine ev_alloc rfl rfl _ step_zero ?_; intro g3 W2 hg3 hsz hbn; have hgr := grown_of_below hbn; have ng1g3 : g1 ≠ g3 := (by have := hg1.lt; omega); have ng2g3 : g2 ≠ g3 := (by have := hg2.lt; omega); replace hg3 : Blk W2 g3 _ (#[.int .i64 0, .int .i64 0, .string ⟨#[]⟩, .nilFunc]) := hg3; have zg3 : w.heap.size ≤ g3 := (by have := HB.size; omega); replace hdq := hdq.kept hgr (by simp); replace hg1 := hg1.grown hgr (by simp); replace hg2 := hg2.grown hgr (by simp); replace HB := HB.grown hgr (by have := HB.size; omega) (by simp); have hcg3 := hg3.cell; have hfg3 := hg3.frozen; replace hcg1 := hg1.cell; replace hfg1 := hg1.frozen; replace hcg2 := hg2.cell; replace hfg2 := hg2.frozen; clear hsz hbn hgr)
          | ((with_reducible refine gate_store (p := 6) rfl ?_); refine ev_store_row (cs := stepCells q.V (hopTo q.V to) (hopNm q.V to) (hopFn q.V to)) rfl rfl rfl hg3 rfl rfl step_size rfl (stepCells_one _ _ _ _) ?_; intro W3 hgn hgr; replace hdq := hdq.kept hgr (RU.ne_blk hdq hg3 (by decide)); replace hg1 := hg1.grown hgr (by intro e; injection e with e; omega); replace hg2 := hg2.grown hgr (by intro e; injection e with e; omega); replace HB := HB.grown hgr (by have := HB.size; omega) (by intro k e; injection e with e; omega); replace hg3 := hgn; replace hcg1 := hg1.cell; replace hfg1 := hg1.frozen; replace hcg2 := hg2.cell; replace hfg2 := hg2.frozen; replace hcg3 := hg3.cell; replace hfg3 := hg3.frozen; clear hgn hgr)
          | ((with_reducible refine gate_dst (N := 21) rfl ?_); refine wpList_load_row rfl _ _ rfl g1 rfl _ _ (0, 0) _ hg1 Tryd.underlying35 rfl rec_size ?_)
          | ((with_reducible refine gate_dst (N := 22) rfl ?_); refine ev_call_value rfl rfl rfl (hop_coded q.V to) rfl ?_; refine Calls.mono (Hh.out Aq cq _ hdq) ?_; rintro e W4 ⟨A5, c5, rfl, hd5, hb⟩; refine ⟨_, rfl, ?_⟩; have hgr := grown_of_below hb; replace hdq := hdq.kept hgr (by simp); replace hg1 := hg1.grown hgr (by simp); replace hg2 := hg2.grown hgr (by simp); replace hg3 := hg3.grown hgr (by simp); replace HB := HB.grown hgr (by have := HB.size; omega) (by simp); replace hcg1 := hg1.cell; replace hfg1 := hg1.frozen; replace hcg2 := hg2.cell; replace hfg2 := hg2.frozen; replace hcg3 := hg3.cell; replace hfg3 := hg3.frozen; clear hb hgr)
          | ((with_reducible refine gate_store (p := 2) rfl ?_); refine ev_store_row (cs := (hopR q.V to q).cells A5 c5) rfl rfl rfl hg1 rfl rfl rec_size rfl (cells_one _ _ _) ?_; intro W5 hgn hgr; replace hg2 := hg2.grown hgr (by intro e; injection e with e; omega); replace hg3 := hg3.grown hgr (by intro e; injection e with e; omega); replace HB := HB.grown hgr (by have := HB.size; omega) (by intro k e; injection e with e; omega); replace hg1 := hgn; replace hcg1 := hg1.cell; replace hfg1 := hg1.frozen; replace hcg2 := hg2.cell; replace hfg2 := hg2.frozen; replace hcg3 := hg3.cell; replace hfg3 := hg3.frozen; clear hgn hgr)
          | ((with_reducible refine gate_store (p := 4) rfl ?_); refine ev_store_row (cs := Rec.zero.cells none 0) rfl rfl rfl hg2 rfl rfl rec_size rfl (cells_one _ _ _) ?_; intro W6 hgn hgr; replace hg1 := hg1.grown hgr (by intro e; injection e with e; omega); replace hg3 := hg3.grown hgr (by intro e; injection e with e; omega); replace HB := HB.grown hgr (by have := HB.size; omega) (by intro k e; injection e with e; omega); replace hg2 := hgn; replace hcg1 := hg1.cell; replace hfg1 := hg1.frozen; replace hcg2 := hg2.cell; replace hfg2 := hg2.frozen; replace hcg3 := hg3.cell; replace hfg3 := hg3.frozen; clear hgn hgr))
        refine ret_row rfl hg2 rfl Tryd.underlying35 rfl rec_size rfl ?_
        exact ⟨none, 0, by rw [Eq.out, Ef.out]; rfl, by rw [Eq.out]; exact RU.nil, HB⟩
      · have hq := hts.1 hF
        have Eq := Lib.hid (hq.1.symm.trans Htr.out)
        have Ef := Lib.hid (hq.2.symm.trans Htf.out)
        have hh := fun (A : Option Addr) (c : Nat) (w : World) => Hops.out q.V q A c w Hvq.out Hver.out Hab.out hfq
        rw [hF] at hh
        unfold HopSaid at hh
        have Hh := Lib.hid hh
        clear hq hts hF hh
        go_wp2_with (first
          | (go_at_call 87; (with_reducible refine (next_calls Hver.out Hto.out Hab.out _ (Ht.out.next HB)).mono ?_); rintro e W1 ⟨rfl, hb⟩; have hgr := grown_of_below hb; replace hdq := hdq.kept hgr (by simp); replace hg1 := hg1.grown hgr (by simp); replace hg2 := hg2.grown hgr (by simp); replace HB := HB.grown hgr (by have := HB.size; omega) (by simp); replace hcg1 := hg1.cell; replace hfg1 := hg1.frozen; replace hcg2 := hg2.cell; replace hfg2 := hg2.frozen; clear hb hgr)
          | ((with_reducible refine gate_dst (N := 6) rfl ?_); refine ev_alloc rfl rfl _ step_zero ?_; intro g3 W2 hg3 hsz hbn; have hgr := grown_of_below hbn; have ng1g3 : g1 ≠ g3 := (by have := hg1.lt; omega); have ng2g3 : g2 ≠ g3 := (by have := hg2.lt; omega); replace hg3 : Blk W2 g3 _ (#[.int .i64 0, .int .i64 0, .string ⟨#[]⟩, .nilFunc]) := hg3; have zg3 : w.heap.size ≤ g3 := (by have := HB.size; omega); replace hdq := hdq.kept hgr (by simp); replace hg1 := hg1.grown hgr (by simp); replace hg2 := hg2.grown hgr (by simp); replace HB := HB.grown hgr (by have := HB.size; omega) (by simp); have hcg3 := hg3.cell; have hfg3 := hg3.frozen; replace hcg1 := hg1.cell; replace hfg1 := hg1.frozen; replace hcg2 := hg2.cell; replace hfg2 := hg2.frozen; clear hsz hbn hgr)
          | ((with_reducible refine gate_store (p := 6) rfl ?_); refine ev_store_row (cs := stepCells q.V (hopTo q.V to) (hopNm q.V to) (hopFn q.V to)) rfl rfl rfl hg3 rfl rfl step_size rfl (stepCells_one _ _ _ _) ?_; intro W3 hgn hgr; replace hdq := hdq.kept hgr (RU.ne_blk hdq hg3 (by decide)); replace hg1 := hg1.grown hgr (by intro e; injection e with e; omega); replace hg2 := hg2.grown hgr (by intro e; injection e with e; omega); replace HB := HB.grown hgr (by have := HB.size; omega) (by intro k e; injection e with e; omega); replace hg3 := hgn; replace hcg1 := hg1.cell; replace hfg1 := hg1.frozen; replace hcg2 := hg2.cell; replace hfg2 := hg2.frozen; replace hcg3 := hg3.cell; replace hfg3 := hg3.frozen; clear hgn hgr)
          | ((with_reducible refine gate_dst (N := 21) rfl ?_); refine wpList_load_row rfl _ _ rfl g1 rfl _ _ (0, 0) _ hg1 Tryd.underlying35 rfl rec_size ?_)
          | ((with_reducible refine gate_dst (N := 22) rfl ?_); refine ev_call_value rfl rfl rfl (hop_coded q.V to) rfl ?_; refine Calls.mono (Hh.out Aq cq _ hdq) ?_; rintro e W4 ⟨A5, c5, rfl, hd5, hb⟩; refine ⟨_, rfl, ?_⟩; have hgr := grown_of_below hb; replace hdq := hdq.kept hgr (by simp); replace hg1 := hg1.grown hgr (by simp); replace hg2 := hg2.grown hgr (by simp); replace hg3 := hg3.grown hgr (by simp); replace HB := HB.grown hgr (by have := HB.size; omega) (by simp); replace hcg1 := hg1.cell; replace hfg1 := hg1.frozen; replace hcg2 := hg2.cell; replace hfg2 := hg2.frozen; replace hcg3 := hg3.cell; replace hfg3 := hg3.frozen; clear hb hgr)
          | ((with_reducible refine gate_store (p := 2) rfl ?_); refine ev_store_row (cs := (hopR q.V to q).cells A5 c5) rfl rfl rfl hg1 rfl rfl rec_size rfl (cells_one _ _ _) ?_; intro W5 hgn hgr; replace hd5 := hd5.kept hgr (RU.ne_blk hd5 hg1 (by decide)); replace hg2 := hg2.grown hgr (by intro e; injection e with e; omega); replace hg3 := hg3.grown hgr (by intro e; injection e with e; omega); replace HB := HB.grown hgr (by have := HB.size; omega) (by intro k e; injection e with e; omega); replace hg1 := hgn; replace hcg1 := hg1.cell; replace hfg1 := hg1.frozen; replace hcg2 := hg2.cell; replace hfg2 := hg2.frozen; replace hcg3 := hg3.cell; replace hfg3 := hg3.frozen; clear hgn hgr)
          | ((with_reducible refine gate_store (p := 31) rfl ?_); refine ev_store_cell rfl rfl rfl hg1 rfl (i := 0) (v := .int .i64 (hopTo q.V to)) rfl rfl (by kernel_rfl) (show (0 : Nat) < 12 by decide) ?_; intro W6 hgn hgr; replace hgn : Blk W6 g1 _ (({ hopR q.V to q with V := hopTo q.V to } : Rec).cells A5 c5) := hgn; replace hd5 := hd5.kept hgr (RU.ne_blk hd5 hg1 (by decide)); replace hg2 := hg2.grown hgr (by intro e; injection e with e; omega); replace hg3 := hg3.grown hgr (by intro e; injection e with e; omega); replace HB := HB.grown hgr (by have := HB.size; omega) (by intro k e; injection e with e; omega); replace hg1 := hgn; replace hcg1 := hg1.cell; replace hfg1 := hg1.frozen; replace hcg2 := hg2.cell; replace hfg2 := hg2.frozen; replace hcg3 := hg3.cell; replace hfg3 := hg3.frozen; clear hgn hgr))
        go_roundg (stepsL (hopTo q.V to) to).length
        case measure => rw [Hs.out]; simp
        case rel => exact ⟨{ hopR q.V to q with V := hopTo q.V to }, A5, c5, rfl, rfl, ⟨Hver.out.hop Hto.out, Hv.out _ Hvq.out Hver.out Hab.out, ⟨(hfq.hop _ _).name, (hfq.hop _ _).data⟩, Eq.out, Ef.out, hg1, hg2, hd5, HB⟩⟩
end Go.Proofs.YtjhiohjpkdjkoaaDoor
