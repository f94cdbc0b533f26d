/-
  A load of a record from whatever address; the Data of records (seat of the bare rows; elsewhere part of D2 and D4).
-/
import Derived.Test.YtikodgaomhmbmaaD1
set_option linter.unusedVariables false
set_option linter.unusedSimpArgs false
namespace Go.Proofs.Ytikodgaomhmbmaa
open Go.RowKit
attribute [local go_sem] Rec.size_ Rec.g0 Rec.g1 Rec.g2 Rec.g3 Rec.g4 Rec.g5 Rec.g6 Rec.g7 Rec.g8 Rec.g9 Rec.g10 Rec.g11 Rec.fold

/-- A function of the program that is called by its value. -/
def Coded (P : Program) (f : FuncId) : Prop := ∃ fn c, P.funcs[f]? = some fn ∧ (fn.name == "runtime.NumGoroutine") = false ∧ fn.body = some c
theorem Rec.lit_fold (r : Rec) (A : Option Addr) (c : Nat) : Array.foldl (fun (cs : Array Value) (x : Value × Nat) => cs.setIfInBounds x.snd x.fst) #[Value.int IntKind.i64 0, Value.int IntKind.i64 0, Value.int IntKind.i64 0, Value.int IntKind.i64 0, Value.int IntKind.i64 0, Value.int IntKind.i64 0, Value.int IntKind.i64 0, Value.int IntKind.i64 0, Value.int IntKind.i64 0, Value.int IntKind.i64 0, Value.string { data := #[] }, Value.slice none 0 0] (r.cells A c).zipIdx 0 12 = r.cells A c := by
  unfold Rec.cells
  simp [Array.zipIdx]
attribute [local go_sem] Rec.lit_fold
/-! ### A load of a struct from whatever address -/
section
variable {P : Program} {ops : Array Oper} {rest : List Oper} {o : Oper} {a : Act} {Q : Exit → Act → World → Prop} {W : World}
theorem run_loadVar_at (w : World) (ad : Addr) (ty : TypeId) (cs : Array Value) (d : TypeDesc) (hc : ∀ j v, cs[j]? = some v → w.cell? (ad.add j) = some v)
    (hu : P.underlying ty = some d) (hd : (match d with | .struct _ | .array _ _ => true | _ => false) = true) (hi : (P.info? ty).map (·.size) = some cs.size) :
    (loadVar ty ad).run P w = .ok (.agg cs) w := by
  have hl : (loadCells ad cs.toList.length).run P w = .ok cs.toList.toArray w := run_loadCells_list (P := P) w ad cs.toList (fun j v hv => hc j v (by simpa using hv))
  cases hq : P.info? ty with
  | none => simp [hq] at hi
  | some i =>
    have hs : i.size = cs.size := by simpa [hq] using hi
    have hz : (sizeOf ty).run P w = .ok cs.size w := by simp [sizeOf, typeInfo, hq, hs]
    have ha : (isAgg ty).run P w = .ok true w := by
      cases d <;> simp at hd <;> simp [isAgg, run_underlying hu]
    have hl' : (loadCells ad cs.size).run P w = .ok cs w := by simpa using hl
    simp [loadVar, ha, hz, hl', Sem.run_bind, Result.andThen]
theorem ev_load_at (hgd : o.guard = none) {ty : TypeId} {x : Operand} (ho : o.op = .load ty x) {ad : Addr} (hx : a.eval x = .pointer (some ad)) {cs : Array Value} {d : TypeDesc} (hc : ∀ j v, cs[j]? = some v → W.cell? (ad.add j) = some v)
    (hu : P.underlying ty = some d) (hd : (match d with | .struct _ | .array _ _ => true | _ => false) = true) (hi : (P.info? ty).map (·.size) = some cs.size)
    (h : wpList P ops Q rest (a.put o.dst (.agg cs)) W) : wpList P ops Q (o :: rest) a W := by
  refine ev_run hgd (w1 := W) (v := .agg cs) ?_ h
  simp [execOp, ho, hx, Instr.loadAt, Instr.sureAddr, run_loadVar_at W ad ty cs d hc hu hd hi]
end
theorem RR.load {w : World} {A : Option Addr} {l : List RA} (h : RR w A l) {k : Nat} {x : RA} (hx : l[k]? = some x) {ad : Addr} (he : A = some ad) : ∀ j v, (x.1.cells x.2.1 x.2.2)[j]? = some v → w.cell? ((ad.add (k * 12)).add j) = some v := by
  obtain ⟨ad', e, _, hc⟩ := h.get hx
  rw [he] at e
  injection e with e
  subst e
  intro j v hv
  rw [add_of_add]
  exact hc j v hv

/-- The Data of records that were made. -/
def RUs (w : World) (os : List RA) : Prop := ∀ x ∈ os, RU w x.2.1 x.1.Data
section
variable {w w' : World} {os : List RA}
theorem RUs.kept {row : Option Nat} (h : RUs w os) (hgr : w.grownBy w' row) (hne : ∀ x ∈ os, x.1.Data ≠ [] → ∀ ad, x.2.1 = some ad → some ad.block ≠ row) : RUs w' os := fun x hx => (h x hx).kept hgr (hne x hx)
theorem RUs.ne_blk {g : Nat} {t : TypeId} {cs : Array Value} (h : RUs w os) (hg : Blk w g t cs) (hne : 5 ≠ t) : ∀ x ∈ os, x.1.Data ≠ [] → ∀ ad, x.2.1 = some ad → some ad.block ≠ some g := fun x hx => (h x hx).ne_blk hg hne
theorem RUs.ne_own {base size n : Nat} {e : TypeId} {v : Value} {xs : List Value} (h : RUs w os) (ho : w.ownsRow base e size v n xs) (hne : 5 ≠ e) : ∀ x ∈ os, x.1.Data ≠ [] → ∀ ad, x.2.1 = some ad → some ad.block ≠ v.ownBlock := fun x hx => (h x hx).ne_own ho hne
theorem RUs.nil : RUs w [] := fun x hx => by cases hx
theorem RUs.snoc {y : RA} (h : RUs w os) (hy : RU w y.2.1 y.1.Data) : RUs w (os ++ [y]) := fun x hx => by
  rcases List.mem_append.1 hx with hx | hx
  · exact h x hx
  · obtain rfl : x = y := by simpa using hx
    exact hy
end

theorem OBs.recs {w : World} {base : Nat} {os : List RA} (h : OBs w base (bs os)) : RUs w os := fun x hx => (h.all (x.1.Data, x.2.1, x.2.2) (List.mem_map.2 ⟨x, hx, rfl⟩)).ru
theorem OBs.rb_at {w : World} {base : Nat} {os : List RA} (h : OBs w base (bs os)) {k : Nat} {x : RA} (hx : os[k]? = some x) : RB w x.2.1 x.1.Data := (h.recs x (List.mem_of_getElem? hx)).rb
end Go.Proofs.Ytikodgaomhmbmaa
