/-
  The walk of lift.plain.
-/
import Derived.Test.YtikodgaomhmbmaaD1
set_option linter.unusedVariables false
set_option linter.unusedSimpArgs false
namespace Go.Proofs.Ytikodgaomhmbmaa
open Go.RowKit
attribute [local go_sem] Rec.size_ Rec.g0 Rec.g1 Rec.g2 Rec.g3 Rec.g4 Rec.g5 Rec.g6 Rec.g7 Rec.g8 Rec.g9 Rec.g10 Rec.g11 Rec.fold

theorem take_at {P : Program} {ops : Array Oper} {Q : Exit → Act → World → Prop} {S : World → Prop} {i : Nat} {oi : Oper} {v : Value} {fuel : Nat} {listed : Array Bool} {a : Act} {w : World} (N : Tmp) (hi : ops[i]? = some oi) (hN : oi.dst = some N)
    (hs : Region.noSelect ops = true) (hf : Region.free .any ops listed i = true) (hr : (Region.ready .any ops listed).contains i = true)
    (hQ : ∀ c a w, Q (.panic c) (a.put oi.dst v) w → Q (.panic c) a w) (hy : YieldsIf P ops S oi v a) (hS : S w)
    (h : wpAnyH P .any ops Q S fuel (listed.setIfInBounds i true) (a.put (some N) v) w) : wpAnyH P .any ops Q S (fuel + 1) listed a w :=
  wpAnyH_take hi hs hf hr hQ hy hS (by rw [hN]; exact h)
/-- What a load of a whole row yields, in every world that holds it. -/
theorem yields_row {P : Program} {ops : Array Oper} {S : World → Prop} {o : Oper} {a : Act} (hw : Region.wanted o (yielded ops a.tmps) = true) {ty : TypeId} {x : Operand} (ho : o.op = .load ty x) {g : Nat} {t : TypeId} {cs : Array Value} {d : TypeDesc} (hx : a.eval x = .pointer (some ⟨g, 0, none⟩))
    (hS : ∀ w, S w → Blk w g t cs) (hu : P.underlying ty = some d) (hd : (match d with | .struct _ | .array _ _ => true | _ => false) = true) (hi : (P.info? ty).map (·.size) = some cs.size) : YieldsIf P ops S o (.agg cs) a :=
  .inl ⟨hw, fun w h => by simp [execOp, ho, hx, Instr.loadAt, Instr.sureAddr, run_loadVar_row w g t ty cs (0, 0) d (hS w h) hu hd hi]⟩
theorem held_store {P : Program} {ops : Array Oper} {Q : Exit → Act → World → Prop} {S : World → Prop} {fuel i : Nat} {listed : Array Bool} {a : Act} {W : World} {o : Oper} (hr : Region.ready .any ops listed = [i]) (hi : ops[i]? = some o) (hgd : o.guard = none) (hN : o.dst = none) {t : TypeId} {p x : Operand} (ho : o.op = .store t p x) {g : Nat} {te : TypeId} {old cs : Array Value} (hB : Blk W g te old)
    (hp : a.eval p = .pointer (some ⟨g, 0, none⟩)) (hx : a.eval x = .agg cs) (hz : (P.info? t).map (·.size) = some cs.size) (hs : old.size = cs.size) (h1 : cs.all (·.oneCell') = true)
    (h : ∀ w1, Blk w1 g te cs → W.grownBy w1 (some g) → S w1 ∧ wpAnyH P .any ops Q S fuel (listed.setIfInBounds i true) a w1) : wpAnyH P .any ops Q S (fuel + 1) listed a W := by
  refine wpAnyH_all hr (by simp) fun j hj => ?_
  obtain rfl : j = i := by simpa using hj
  refine wpOp_step hi fun K' hK => ?_
  rw [if_pos (by simp [Region.wanted, hgd])]
  have hrun : (execOp a.eval o).run P W = .ok .skip (W.setRow g cs) := by
    have := run_storeVar_row (P := P) W g te t old cs hB hz hs h1
    simp [execOp, ho, hp, hx, Instr.storeAt, Instr.sureAddr, this]
  unfold Oper.wp
  rw [hrun]
  show K' (a.put o.dst undef) _
  rw [hN]
  exact hK _ _ (h _ (setRow_heap W g old cs te (0, 0) hB) ⟨rfl, rfl, rfl, by simp, fun i _ hne => setRow_other W g i cs (fun e => hne (by rw [e]))⟩)

end Go.Proofs.Ytikodgaomhmbmaa
