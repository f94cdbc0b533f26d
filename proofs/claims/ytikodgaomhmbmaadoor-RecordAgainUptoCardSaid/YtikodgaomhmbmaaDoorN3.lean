/-
  Names: what a string's runes are, and the walks of text.stray and text.Name.
-/
import Derived.Test.YtikodgaomhmbmaaDoorN2
import Derived.Test.YtikodgaomhmbmaaDoorSh
import Derived.Laws.RangeAny
import Derived.Lib.LaidU8
set_option linter.unusedVariables false
set_option linter.unusedSimpArgs false
namespace Go.Proofs.YtikodgaomhmbmaaDoor
open Go.RowKit

/-! ### An iterator over a string -/
/-- Block g is an iterator over s, at pos. -/
def It (w : World) (g : Nat) (s : ByteArray) (pos : Nat) : Prop := w.heap[g]? = some (.stringIter s pos)
section
variable {w w' : World} {g pos : Nat} {s : ByteArray}
theorem It.lt (h : It w g s pos) : g < w.heap.size := by
  rcases Nat.lt_or_ge g w.heap.size with hlt | hge
  · exact hlt
  · unfold It at h; rw [Array.getElem?_eq_none hge] at h; cases h
theorem It.grown {row : Option Nat} (h : It w g s pos) (hb : w.grownBy w' row) (hg : some g ≠ row) : It w' g s pos := (hb.block g h.lt hg).trans h
theorem It.next (h : It w g s pos) (hb : Below w.heap.size w w') : It w' g s pos := (hb.block g h.lt).trans h
theorem It.cell (_h : It w g s pos) : True := trivial
theorem It.frozen (_h : It w g s pos) : True := trivial
end
section
variable {P : Program} {ops : Array Oper} {rest : List Oper} {o : Oper} {a : Act} {Q : Exit → Act → World → Prop} {W : World}
theorem ev_range (hgd : o.guard = none) {t : TypeId} {x : Operand} (ho : o.op = .range t x) (ht : P.underlying t = some .string) {s : ByteArray} (hx : a.eval x = .string s)
    (h : ∀ g w1, It w1 g s 0 → W.heap.size ≤ g → Below W.heap.size W w1 → wpList P ops Q rest (a.put o.dst (.pointer (some ⟨g, 0, none⟩))) w1) : wpList P ops Q (o :: rest) a W := by
  refine ev_run hgd (w1 := W.iter s 0) (v := .pointer (some ⟨W.heap.size, 0, none⟩)) ?_ (h _ _ (World.iter_heap W s 0) (Nat.le_refl _) (below_alloc (Below.refl _ _) _))
  have := run_range_string (P := P) W t s ht
  simp [execOp, ho, hx, this]
theorem next_more {g pos : Nat} {s : ByteArray} (hi : It W g s pos) (hlt : pos < s.size) (ty : TypeId) : (Instr.next (.pointer (some ⟨g, 0, none⟩)) true ty).run P W =
    .ok (.tuple #[.bool true, .int .i64 pos, .int .i32 (Utf8.decode s pos).1]) { W with heap := W.heap.setIfInBounds g (.stringIter s (pos + (Utf8.decode s pos).2)) } := by
  unfold It at hi
  simp only [Instr.next, getObj, setObj, Sem.run_bind, Sem.run, hi, Result.andThen, hlt, if_true]
  simp [goInt]
theorem next_none {g pos : Nat} {s : ByteArray} (hi : It W g s pos) (hlt : ¬ pos < s.size) (ty : TypeId) : (Instr.next (.pointer (some ⟨g, 0, none⟩)) true ty).run P W = .ok (.tuple #[.bool false]) W := by
  unfold It at hi
  simp [Instr.next, getObj, Sem.run, hi, hlt]
theorem ev_next_more (hgd : o.guard = none) {x : Operand} (ho : o.op = .next x true) {g pos : Nat} {s : ByteArray} (hx : a.eval x = .pointer (some ⟨g, 0, none⟩)) (hi : It W g s pos) (hlt : pos < s.size)
    (h : ∀ w1, It w1 g s (pos + (Utf8.decode s pos).2) → W.grownBy w1 (some g) → wpList P ops Q rest (a.put o.dst (.tuple #[.bool true, .int .i64 pos, .int .i32 (Utf8.decode s pos).1])) w1) : wpList P ops Q (o :: rest) a W := by
  have hg := hi.lt
  refine ev_run hgd (w1 := { W with heap := W.heap.setIfInBounds g (.stringIter s (pos + (Utf8.decode s pos).2)) }) (v := .tuple #[.bool true, .int .i64 pos, .int .i32 (Utf8.decode s pos).1]) ?_ (h _ ?_ ?_)
  · simp [execOp, ho, hx, next_more hi hlt]
  · unfold It
    simp [hg]
  · refine ⟨rfl, rfl, rfl, by simp, fun k _ hne => ?_⟩
    have : g ≠ k := fun e => hne (by rw [e])
    simp [Array.getElem?_setIfInBounds, this]
theorem ev_next_end (hgd : o.guard = none) {x : Operand} (ho : o.op = .next x true) {g pos : Nat} {s : ByteArray} (hx : a.eval x = .pointer (some ⟨g, 0, none⟩)) (hi : It W g s pos) (hlt : ¬ pos < s.size)
    (h : wpList P ops Q rest (a.put o.dst (.tuple #[.bool false])) W) : wpList P ops Q (o :: rest) a W := by
  refine ev_run hgd (w1 := W) (v := .tuple #[.bool false]) ?_ h
  simp [execOp, ho, hx, next_none hi hlt]
end

/-! ### Runes -/
theorem decode_wide (s : ByteArray) (pos : Nat) : 1 ≤ (Utf8.decode s pos).2 := by
  simp only [Utf8.decode]
  repeat' split
  all_goals simp
/-- The runes of s from pos on, as a range over s gives them. -/
def runes (s : ByteArray) : Nat → Nat → List Int
  | 0, _ => []
  | f + 1, pos => if pos < s.size then ((Utf8.decode s pos).1 : Int) :: runes s f (pos + (Utf8.decode s pos).2) else []
theorem runes_more {s : ByteArray} {f pos : Nat} (hlt : pos < s.size) (hf : s.size ≤ pos + f) : runes s f pos = ((Utf8.decode s pos).1 : Int) :: runes s (f - 1) (pos + (Utf8.decode s pos).2) := by
  obtain ⟨f, rfl⟩ : ∃ g, f = g + 1 := ⟨f - 1, by omega⟩
  rw [runes, if_pos hlt]
  rfl
theorem runes_end {s : ByteArray} {f pos : Nat} (hlt : ¬ pos < s.size) : runes s f pos = [] := by
  cases f
  · rfl
  · rw [runes, if_neg hlt]
/-- A list of runes that is a name. -/
def nameL (l : List Int) : Bool := decide (1 ≤ l.length) && decide (l.length ≤ 48) && l.all nameRune && (l.head?.map isLetter).getD false
def isName (s : ByteArray) : Bool := nameL (runes s s.size 0)

set_option maxRecDepth 100000 in
theorem stray_calls (s : ByteArray) (i : Nat) (hi : i ≤ s.size) (r : Int) (w : World) (hT : Lib.Utf8Tabs 5 6 w) :
    Calls Tryd.prog 105 #[.string s, .int .i64 i, .int .i32 r] w fun e w' => ∃ b : Bool, e = .returned (.bool b) ∧ (b = true → r = 65533) ∧ Below w.heap.size w w' := by
  have HB := Below.refl w.heap.size w
  have HT := Lib.hid hT
  clear hT
  by_cases hr : r = 65533
  · have t1 : (r != 65533) = false := by simp [hr]
    have t2 : (r == 65533) = true := by simp [hr]
    have Hr := Lib.hid hr
    clear hr
    go_enter Tryd.func105, Tryd.ntmps105
    go_wp2_with (first
      | (go_at_call 111; (with_reducible refine (Tryd.utf8_DecodeRuneInString _ _ HT.out).mono ?_); rintro e W1 ⟨rfl, hb⟩; have hgr := grown_of_below hb; replace HB := HB.grown hgr (by have := HB.size; omega) (by simp); clear hb hgr))
    go_ret
    exact ⟨_, rfl, fun _ => Hr.out, HB⟩
  · have t1 : (r != 65533) = true := by simp [hr]
    have t2 : (r == 65533) = false := by simp [hr]
    clear hr
    go_enter Tryd.func105, Tryd.ntmps105
    go_wp2
    go_ret
    exact ⟨false, rfl, (fun h => absurd h (by decide)), HB⟩
end Go.Proofs.YtikodgaomhmbmaaDoor
