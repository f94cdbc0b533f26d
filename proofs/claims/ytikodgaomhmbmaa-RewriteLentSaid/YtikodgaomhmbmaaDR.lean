/-
  A region whose operations come in a drawn order, one after the other where the order is forced.
-/
import Derived.Test.YtikodgaomhmbmaaDP
import Derived.Test.YtikodgaomhmbmaaS00
import Derived.Laws.CopyRow
set_option linter.unusedVariables false
set_option linter.unusedSimpArgs false
namespace Go.Proofs.Ytikodgaomhmbmaa
open Go.RowKit

/-- K behind a normal end, Q behind any other. -/
def Behind (K : Act → World → Prop) (Q : Exit → Act → World → Prop) : Exit → Act → World → Prop
  | .normal, a, w => K a w
  | x, a, w => Q x a w
theorem wpOp_of_list {P : Program} {ops : Array Oper} {Q : Exit → Act → World → Prop} {i : Nat} {o : Oper} {K : Act → World → Prop} {a : Act} {w : World} (hi : ops[i]? = some o) (h : wpList P ops (Behind K Q) [o] a w) : wpOp P ops Q i K a w := by
  unfold wpOp
  rw [hi]
  show if Region.wanted o (yielded ops a.tmps) = true then _ else _
  unfold wpList at h
  split
  · rename_i hw
    rw [if_pos hw] at h
    rcases h with h | ⟨h1, a', w', h2⟩
    · refine .inl ?_
      unfold Oper.wp at *
      generalize (execOp a.eval o).run P w = r at h ⊢
      cases r with
      | ok n w' =>
        cases n
        all_goals first
          | exact h
          | exact Calls.mono h (fun e w'' he => by
              cases e
              all_goals first
                | exact he
                | (obtain ⟨a1, w1, h1⟩ := he; exact ⟨a1, w1, h1⟩))
      | halt x w' => cases x <;> exact h
    · exact .inr ⟨h1, a', w', h2⟩
  · rename_i hw
    rw [if_neg hw] at h
    exact h
/-- The beginning: the world behind the draw is like the one ahead. -/
theorem held_start {P : Program} {ops : Array Oper} {Q : Exit → Act → World → Prop} (S : World → Prop) {id : Nat} {a : Act} {w : World} (hm : P.follows .mixedOrders = true)
    (h : ∀ w', Below w.heap.size w w' → wpAnyH P .any ops Q S ops.size (Array.replicate ops.size false) a w') : (Code.region id ops true).wp P Q a w := wp_region_held hm (h _ (Below.refl _ _).drew)
/-- The one operation that may come up. -/
theorem held_one {P : Program} {ops : Array Oper} {Q : Exit → Act → World → Prop} {S : World → Prop} {i : Nat} {o : Oper} {fuel : Nat} {listed : Array Bool} {a : Act} {w : World} (hr : Region.ready .any ops listed = [i]) (hi : ops[i]? = some o)
    (h : wpList P ops (Behind (fun a' w' => S w' ∧ wpAnyH P .any ops Q S fuel (listed.setIfInBounds i true) a' w') Q) [o] a w) : wpAnyH P .any ops Q S (fuel + 1) listed a w :=
  wpAnyH_all hr (by simp) fun j hj => by
    obtain rfl : j = i := by simpa using hj
    exact wpOp_of_list hi h
/-- One of two. -/
theorem held_two {P : Program} {ops : Array Oper} {Q : Exit → Act → World → Prop} {S : World → Prop} {i j : Nat} {o o' : Oper} {fuel : Nat} {listed : Array Bool} {a : Act} {w : World} (hr : Region.ready .any ops listed = [i, j]) (hi : ops[i]? = some o) (hj : ops[j]? = some o')
    (h : wpList P ops (Behind (fun a' w' => S w' ∧ wpAnyH P .any ops Q S fuel (listed.setIfInBounds i true) a' w') Q) [o] a w)
    (h' : wpList P ops (Behind (fun a' w' => S w' ∧ wpAnyH P .any ops Q S fuel (listed.setIfInBounds j true) a' w') Q) [o'] a w) : wpAnyH P .any ops Q S (fuel + 1) listed a w :=
  wpAnyH_all hr (by simp) fun x hx => by
    rcases (by simpa using hx : x = i ∨ x = j) with rfl | rfl
    · exact wpOp_of_list hi h
    · exact wpOp_of_list hj h'
theorem yields_at {P : Program} {ops : Array Oper} {S : World → Prop} {o : Oper} {a : Act} (hw : Region.wanted o (yielded ops a.tmps) = true) {ty : TypeId} {x : Operand} (ho : o.op = .load ty x) {ad : Addr} {cs : Array Value} {d : TypeDesc} (hx : a.eval x = .pointer (some ad))
    (hS : ∀ w, S w → ∀ j v, cs[j]? = some v → w.cell? (ad.add j) = some v) (hu : P.underlying ty = some d) (hd : (match d with | .struct _ | .array _ _ => true | _ => false) = true) (hi : (P.info? ty).map (·.size) = some cs.size) : YieldsIf P ops S o (.agg cs) a :=
  .inl ⟨hw, fun w h => by simp [execOp, ho, hx, Instr.loadAt, Instr.sureAddr, run_loadVar_at w ad ty cs d (hS w h) hu hd hi]⟩
section
variable {P : Program} {ops : Array Oper} {rest : List Oper} {o : Oper} {a : Act} {Q : Exit → Act → World → Prop} {W : World}
/-- A call, as an operation by itself. -/
theorem ev_call (hgd : o.guard = none) {f : FuncId} {xs : Array Operand} {ats : Array TypeId} (ho : o.op = .call { callee := .value (.func f), args := xs, argTypes := ats }) (hf : Coded P f) {args : Array Value} (hargs : xs.map a.eval = args)
    (h : Calls P f args W fun e w' => ∃ u, e = .returned u ∧ wpList P ops Q rest (a.put o.dst u) w') : wpList P ops Q (o :: rest) a W := by
  obtain ⟨fn, c, h1, h2, h3⟩ := hf
  have hfv : a.eval (.func f) = .func (.func f) #[] #[] := rfl
  have hrun : (execOp a.eval o).run P W = .ok (.enter f args) W := by
    simp [execOp, ho, resolve, Deferred.ofValue, hfv, hargs, invoke, callFunc, Sem.run_bind, h1, beq_eq_false_iff_ne.1 h2, h3, Result.andThen]
  refine wpList_plain hgd fun K hK => ?_
  unfold Oper.wp
  rw [hrun, Oper.upon_enter]
  exact h.mono fun e w' ⟨u, he, hw⟩ => by subst he; exact hK _ _ hw
theorem ev_call1 (hgd : o.guard = none) {f : FuncId} {x : Operand} {ats : Array TypeId} (ho : o.op = .call { callee := .value (.func f), args := #[x], argTypes := ats }) (hf : Coded P f) {v : Value} (hx : a.eval x = v)
    (h : Calls P f #[v] W fun e w' => ∃ u, e = .returned u ∧ wpList P ops Q rest (a.put o.dst u) w') : wpList P ops Q (o :: rest) a W := ev_call hgd ho hf (by simp [hx]) h
theorem ev_call2 (hgd : o.guard = none) {f : FuncId} {x y : Operand} {ats : Array TypeId} (ho : o.op = .call { callee := .value (.func f), args := #[x, y], argTypes := ats }) (hf : Coded P f) {v u : Value} (hx : a.eval x = v) (hy : a.eval y = u)
    (h : Calls P f #[v, u] W fun e w' => ∃ z, e = .returned z ∧ wpList P ops Q rest (a.put o.dst z) w') : wpList P ops Q (o :: rest) a W := ev_call hgd ho hf (by simp [hx, hy]) h
/-- A struct is stored into a part of a block. -/
theorem ev_store_part (hgd : o.guard = none) (hN : o.dst = none) {t : TypeId} {p x : Operand} (ho : o.op = .store t p x) {g off : Nat} {te : TypeId} {old cs new : Array Value} (hB : Blk W g te old)
    (hp : a.eval p = .pointer (some ⟨g, off, none⟩)) (hx : a.eval x = .agg cs) (hi : (P.info? t).map (·.size) = some cs.size) (hfit : off + cs.size ≤ old.size) (h1 : cs.all (·.oneCell') = true)
    (hnew : (old.toList.take off ++ cs.toList ++ old.toList.drop (off + cs.size)).toArray = new)
    (h : ∀ w1, Blk w1 g te new → W.grownBy w1 (some g) → wpList P ops Q rest a w1) : wpList P ops Q (o :: rest) a W := by
  have hst := run_storeCells_at P g off te cs.toList 0 old W hB (by simpa using hfit) (fun v hv => Array.all_eq_true_iff_forall_mem.1 h1 v (by simpa using hv))
  have hst2 : (storeVar t ⟨g, off, none⟩ (.agg cs)).run P W = .ok () (W.setRow g new) := by
    obtain ⟨i, hq, hs⟩ := Option.map_eq_some_iff.1 hi
    simp only [Nat.add_zero, Array.length_toList] at hst
    rw [hnew] at hst
    simp [storeVar, sizeOf, typeInfo, hq, Value.cells, hs, hst]
  refine ev_skip hgd hN (w1 := W.setRow g new) ?_ (h _ (setRow_heap W g old new te (0, 0) hB) ?_)
  · simp [execOp, ho, hp, hx, Instr.storeAt, Instr.sureAddr, hst2]
  · exact ⟨rfl, rfl, rfl, by simp, fun i _ hne => setRow_other W g i new (fun e => hne (by rw [e]))⟩
end
end Go.Proofs.Ytikodgaomhmbmaa
