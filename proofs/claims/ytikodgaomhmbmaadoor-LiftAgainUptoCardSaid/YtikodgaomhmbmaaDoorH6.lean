/-
  How a list of changes reads.
-/
import Derived.Test.YtikodgaomhmbmaaDoorH5
import Derived.Test.YtikodgaomhmbmaaDoorFU
set_option linter.unusedVariables false
set_option linter.unusedSimpArgs false
namespace Go.Proofs.YtikodgaomhmbmaaDoor
open Go.ChangeShapes Go.WideShapes Go.ChangeAt Go.RowKit Go.Deep

section
variable {H : Type} {enc : TypeId × Value → H} {w : World} {base : Nat} {spare : Nat → Bool} {held : Bool}
theorem list3 {α : Type} {l : List α} (h : l.length = 3) : ∃ a b c, l = [a, b, c] := by
  match l, h with
  | [a, b, c], _ => exact ⟨a, b, c, rfl⟩
theorem cells_trn : Tryd.prog.cellsOf 64 = 3 := by kernel_rfl
theorem trod_trn {fuel : Nat} {cs : List Value} {x : DataW H × List MemPlace} (h : DataW.trod enc Tryd.prog w base spare held fuel 64 cs = some x) : ∃ t : Trn, cs = t.cells.toList := by
  obtain ⟨xs, n, _, hx, hcl, hlen, hg⟩ := DataW.trod_struct Tryd.underlying64 h
  rw [cells_trn] at hcl
  obtain ⟨c0, c1, c2, rfl⟩ := list3 hcl
  obtain ⟨y0, y1, y2, rfl⟩ := list3 (l := xs) hlen
  have ci : Tryd.prog.cellsOf 3 = 1 := by kernel_rfl
  obtain ⟨a, e0, z0, f0⟩ := DataW.trod_int Tryd.underlying3 (by simpa [ci] using hg 0 _ rfl)
  obtain ⟨b, e1, z1, f1⟩ := DataW.trod_int Tryd.underlying3 (by simpa [ci] using hg 1 _ rfl)
  obtain ⟨c, e2, z2, f2⟩ := DataW.trod_int Tryd.underlying3 (by simpa [ci] using hg 2 _ rfl)
  simp only [List.cons.injEq, and_true] at e0 e1 e2
  subst e0 e1 e2
  exact ⟨⟨a, b, c⟩, rfl⟩
/-- A list of changes. -/
theorem trod_trns {fuel : Nat} {cs : List Value} {x : DataW H × List MemPlace} (h : DataW.trod enc Tryd.prog w base spare held fuel 56 cs = some x) :
    ∃ (A : Option Addr) (l : List Trn) (c : Nat), cs = [.slice A l.length c] ∧ RTn w A l ∧ ∀ N, Rows.uptoBulk x.1 ≤ N → l.length ≤ N := by
  rcases open_slice Tryd.underlying56 h with ⟨rfl, rfl⟩ | ⟨a, len, cap, m, n, D, Pl, rfl, hb, hl, hm, hmm, rfl, hx⟩
  · exact ⟨none, [], 0, rfl, Reads.none_, fun N _ => by simp⟩
  · have hlm : len ≤ m := by rw [hmm]; split <;> omega
    have hall : ∀ i, i < len → ∃ y : Trn, w.cells? base (a.add (i * 3)) 3 = some y.cells.toList := by
      intro i hi
      obtain ⟨cs', h1, h2⟩ := hx i (by omega)
      rw [cells_trn] at h1
      obtain ⟨t, rfl⟩ := trod_trn h2
      exact ⟨t, h1⟩
    haveI : Inhabited Trn := ⟨⟨0, 0, 0⟩⟩
    obtain ⟨f, hf⟩ := choose_lt hall
    refine ⟨some a, (List.range len).map f, cap, by simp, ⟨by rw [trnCells_length], fun hn => ⟨a, rfl, ?_, ?_⟩⟩, ?_⟩
    · simp at hn
      have h1 := hf 0 hn
      obtain ⟨_, _, h3⟩ := World.cells?_some h1
      have := World.block_lt_of_cell? w _ ((h3 0 (by omega)).trans (by simp [Trn.cells]; rfl))
      rw [block_of_add, block_of_add] at this
      exact this
    · intro j u hu
      have hj : j < len * 3 := by
        have := (List.getElem?_eq_some_iff.1 hu).1
        rw [trnCells_length] at this
        simpa using this
      have hk : j / 3 < len := by omega
      have hg : ((List.range len).map f)[j / 3]? = some (f (j / 3)) := by rw [List.getElem?_map, List.getElem?_range hk]; rfl
      have hr := trnCells_get hg (j % 3) (by omega)
      rw [show j / 3 * 3 + j % 3 = j by omega, hu] at hr
      have h1 := hf _ hk
      obtain ⟨_, _, h3⟩ := World.cells?_some h1
      have := h3 (j % 3) (by omega)
      rw [add_of_add, show j / 3 * 3 + j % 3 = j by omega, show ∀ i, (f (j / 3)).cells.toList[i]? = (f (j / 3)).cells[i]? by intro i; simp, ← hr] at this
      exact this
    · intro N hN
      have hD : Rows.uptoBulkAll ((List.range len).map D) ≤ N := by
        simp only [Rows.uptoBulk] at hN
        omega
      have := bulk_len ((List.range len).map D)
      simp at this ⊢
      omega
end
end Go.Proofs.YtikodgaomhmbmaaDoor
