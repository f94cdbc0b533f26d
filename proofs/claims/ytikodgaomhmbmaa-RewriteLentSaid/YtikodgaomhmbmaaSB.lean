/-
  How large a list of records is whose bulk is bounded (seat of the bare rows).
-/
import Derived.Test.YtikodgaomhmbmaaFr
import Derived.Test.YtikodgaomhmbmaaO2
set_option linter.unusedVariables false
set_option linter.unusedSimpArgs false
namespace Go.Proofs.Ytikodgaomhmbmaa
open Go.ChangeShapes Go.WideShapes Go.ChangeAt Go.RowKit Go.Deep

theorem bulk_mem {H : Type} : ∀ {ds : List (DataW H)} {d : DataW H}, d ∈ ds → Rows.uptoBulk d ≤ Rows.uptoBulkAll ds
  | [], _, h => by cases h
  | x :: l, d, h => by
    simp only [Rows.uptoBulkAll]
    rcases List.mem_cons.1 h with rfl | h
    · omega
    · have := bulk_mem h
      omega
theorem small_bulk {H : Type} {ds : List (DataW H)} {d : DataW H} (h : Rows.uptoSmall H ds = true) (hm : d ∈ ds) : Rows.uptoBulk d ≤ 1048576 := by
  have h1 : Rows.uptoBulkAll ds ≤ 1048576 := by simpa [Rows.uptoSmall] using h
  have h2 := bulk_mem hm
  omega
section
variable {H : Type} {enc : TypeId × Value → H} {w : World} {base : Nat} {spare : Nat → Bool} {held : Bool}
theorem bulk_pos (d : DataW H) : 1 ≤ Rows.uptoBulk d := by
  cases d with
  | lit v => cases v <;> simp [Rows.uptoBulk]
  | _ => simp [Rows.uptoBulk]
theorem bulk_len : ∀ ds : List (DataW H), ds.length ≤ Rows.uptoBulkAll ds
  | [] => by simp
  | d :: ds => by
    have := bulk_len ds
    have := bulk_pos d
    simp only [Rows.uptoBulkAll, List.length_cons]
    omega
/-- A record is not larger than its bulk. -/
theorem rec_bulk {r : Rec} {dd : DataW H} {N : Nat} (hd : (dd = .nil ∧ r.Data = []) ∨ ∃ sp, dd = .slice (u8d r.Data) sp) (h : Rows.uptoBulk (recd r dd) ≤ N) : r.Name.size ≤ N ∧ r.Data.length ≤ N := by
  have h3 : r.Name.data.toList.length ≤ Rows.uptoBulk (recd r dd) := by
    simp only [recd, Rows.uptoBulk, Rows.uptoBulkAll]
    omega
  have h4 : Rows.uptoBulk dd ≤ Rows.uptoBulk (recd r dd) := by
    simp only [recd, Rows.uptoBulk, Rows.uptoBulkAll]
    omega
  have e : r.Name.size = r.Name.data.toList.length := rfl
  refine ⟨by omega, ?_⟩
  rcases hd with ⟨_, h0⟩ | ⟨sp, rfl⟩
  · rw [h0]
    simp
  · have := bulk_len (u8d (H := H) r.Data)
    rw [u8d_length] at this
    simp only [Rows.uptoBulk] at h4
    omega
/-- A []api.Record, by its bulk. -/
theorem trod_recs_bulk {fuel : Nat} {cs : List Value} {x : DataW H × List MemPlace} (h : DataW.trod enc Try.prog w base spare held fuel 22 cs = some x) :
    ∃ (A : Option Addr) (l : List RA) (c : Nat), cs = [.slice A l.length c] ∧ RR w A l ∧ l.length ≤ c ∧ (∀ N, Rows.uptoBulk x.1 ≤ N → l.length ≤ N ∧ ∀ y ∈ l, y.1.Name.size ≤ N ∧ y.1.Data.length ≤ N) ∧ ∀ y ∈ l, y.1.Ints := by
  rcases open_slice Try.underlying22 h with ⟨rfl, rfl⟩ | ⟨a, len, cap, m, n, D, Pl, rfl, hb, hl, hm, hmm, rfl, hx⟩
  · exact ⟨none, [], 0, rfl, RR.nil, by simp, fun N _ => ⟨by simp, fun y hy => by cases hy⟩, fun y hy => by cases hy⟩
  · have hlm : len ≤ m := by rw [hmm]; split <;> omega
    have hall : ∀ i, i < len → ∃ y : RA, w.cells? base (a.add (i * 12)) 12 = some y.cs ∧ RB w y.2.1 y.1.Data ∧ ∃ dd, D i = recd y.1 dd ∧ ((dd = .nil ∧ y.1.Data = []) ∨ ∃ sp, dd = .slice (u8d y.1.Data) sp) ∧ y.1.Ints := by
      intro i hi
      obtain ⟨cs', h1, h2⟩ := hx i (by omega)
      rw [cells_rec] at h1
      obtain ⟨r, A, c, dd, rfl, hrb, _, hin, he, hd⟩ := trod_rec h2
      exact ⟨(r, A, c), h1, hrb, dd, he, hd, hin⟩
    haveI : Inhabited RA := ⟨(Rec.zero, none, 0)⟩
    obtain ⟨f, hf⟩ := choose_lt hall
    refine ⟨some a, (List.range len).map f, cap, by simp, ⟨⟨by rw [recCells_length], fun hn => ⟨a, rfl, ?_, ?_⟩⟩, ?_⟩, by simpa using hl, ?_, ?_⟩
    · simp at hn
      obtain ⟨h1, _⟩ := hf 0 hn
      obtain ⟨_, _, h3⟩ := World.cells?_some h1
      have := World.block_lt_of_cell? w _ ((h3 0 (by omega)).trans (by rw [RA.cs_get]; exact Rec.g0 _ _ _))
      rw [block_of_add, block_of_add] at this
      exact this
    · intro j u hu
      have hj : j < len * 12 := by
        have := (List.getElem?_eq_some_iff.1 hu).1
        rw [recCells_length] at this
        simpa using this
      have hk : j / 12 < len := by omega
      have hg : ((List.range len).map f)[j / 12]? = some (f (j / 12)) := by rw [List.getElem?_map, List.getElem?_range hk]; rfl
      have hr := recCells_get hg (j % 12) (by omega)
      rw [show j / 12 * 12 + j % 12 = j by omega, hu] at hr
      obtain ⟨h1, _⟩ := hf _ hk
      obtain ⟨_, _, h3⟩ := World.cells?_some h1
      have := h3 (j % 12) (by omega)
      rw [add_of_add, show j / 12 * 12 + j % 12 = j by omega, RA.cs_get, ← hr] at this
      exact this
    · intro x hx
      obtain ⟨i, hi, rfl⟩ := List.mem_map.1 hx
      exact (hf i (by simpa using hi)).2.1
    · intro N hN
      have hD : Rows.uptoBulkAll ((List.range len).map D) ≤ N := by
        simp only [Rows.uptoBulk] at hN
        omega
      constructor
      · have := bulk_len ((List.range len).map D)
        simp at this ⊢
        omega
      · intro y hy
        obtain ⟨i, hi, rfl⟩ := List.mem_map.1 hy
        have hi' : i < len := by simpa using hi
        obtain ⟨_, _, dd, he, hd, _⟩ := hf i hi'
        refine rec_bulk hd ?_
        rw [← he]
        have := bulk_mem (ds := (List.range len).map D) (d := D i) (List.mem_map.2 ⟨i, by simpa using hi', rfl⟩)
        omega
    · intro y hy
      obtain ⟨i, hi, rfl⟩ := List.mem_map.1 hy
      exact (hf i (by simpa using hi)).2.2.choose_spec.2.2
end
end Go.Proofs.Ytikodgaomhmbmaa
