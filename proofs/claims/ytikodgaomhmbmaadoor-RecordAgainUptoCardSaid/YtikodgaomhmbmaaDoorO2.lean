/-
  How a list of records reads, out of the form's own readings.
-/
import Derived.Test.YtikodgaomhmbmaaDoorO
set_option linter.unusedVariables false
set_option linter.unusedSimpArgs false
namespace Go.Proofs.YtikodgaomhmbmaaDoor
open Go.ChangeShapes Go.WideShapes Go.ChangeAt Go.RowKit Go.Deep

/-- A new block is not a row's. -/
theorem own_new {w : World} {base g size n : Nat} {e : TypeId} {v : Value} {xs : List Value} (h : w.ownsRow base e size v n xs) (hg : w.heap.size ≤ g) : v.ownBlock ≠ some g := by
  intro he
  have := own_lt h g he
  omega
/-- A record with its Data's address and room. -/
abbrev RA := Rec × Option Addr × Nat
def RA.cs (x : RA) : List Value := (x.1.cells x.2.1 x.2.2).toList
/-- Records as cells, one behind the other. -/
def recCells (l : List RA) : List Value := l.flatMap RA.cs
theorem recCells_length (l : List RA) : (recCells l).length = l.length * 12 := by
  unfold recCells
  induction l with
  | nil => rfl
  | cons x l ih => simp only [List.flatMap_cons, List.length_append, ih, List.length_cons]; simp [RA.cs, Rec.cells]; omega
theorem recCells_append (l m : List RA) : recCells (l ++ m) = recCells l ++ recCells m := by simp [recCells]
theorem recCells_one (x : RA) : recCells [x] = x.cs := by simp [recCells]
theorem recCells_1 {l : List RA} : ∀ u ∈ recCells l, u.oneCell' = true := by
  intro u hu
  obtain ⟨x, _, hx⟩ := List.mem_flatMap.1 hu
  exact Array.all_eq_true_iff_forall_mem.1 (cells_one x.1 x.2.1 x.2.2) u (by simpa [RA.cs] using hx)
theorem recCells_at : ∀ {l : List RA} {k : Nat} {x : RA}, l[k]? = some x → ((recCells l).drop (k * 12)).take 12 = x.cs
  | [], k, x, h => by simp at h
  | y :: l, 0, x, h => by
    simp at h
    subst h
    simp [recCells, RA.cs, Rec.cells]
  | y :: l, k + 1, x, h => by
    have := recCells_at (l := l) (k := k) (x := x) (by simpa using h)
    rw [← this]
    have e : recCells (y :: l) = y.cs ++ recCells l := by simp [recCells]
    have hy : y.cs.length = 12 := by simp [RA.cs, Rec.cells]
    rw [e, List.drop_append, hy, List.drop_eq_nil_of_le (by omega), show (k + 1) * 12 - 12 = k * 12 by omega]
    rfl
theorem RA.cs_get (x : RA) (i : Nat) : x.cs[i]? = (x.1.cells x.2.1 x.2.2)[i]? := by simp [RA.cs]
theorem recCells_get {l : List RA} {k : Nat} {x : RA} (h : l[k]? = some x) (i : Nat) (hi : i < 12) : (recCells l)[k * 12 + i]? = (x.1.cells x.2.1 x.2.2)[i]? := by
  have := recCells_at h
  rw [← RA.cs_get, ← this, List.getElem?_take, if_pos hi, List.getElem?_drop]

/-- The slice value (A, l.length, whatever) reads as the records l. -/
structure RR (w : World) (A : Option Addr) (l : List RA) : Prop where
  row : Reads w w.heap.size 12 A l.length (recCells l)
  data : ∀ x ∈ l, RB w x.2.1 x.1.Data
theorem RR.next {w w' : World} {A : Option Addr} {l : List RA} (h : RR w A l) (hb : Below w.heap.size w w') : RR w' A l := ⟨Reads.next h.row hb, fun x hx => (h.data x hx).next hb⟩
theorem RR.nil {w : World} {A : Option Addr} : RR w A [] := ⟨Reads.none_, fun x hx => by cases hx⟩
/-- One record's cells. -/
theorem RR.get {w : World} {A : Option Addr} {l : List RA} (h : RR w A l) {k : Nat} {x : RA} (hx : l[k]? = some x) : ∃ ad, A = some ad ∧ ad.block < w.heap.size ∧ ∀ i u, (x.1.cells x.2.1 x.2.2)[i]? = some u → w.cell? (ad.add (k * 12 + i)) = some u := by
  have hk : k < l.length := (List.getElem?_eq_some_iff.1 hx).1
  obtain ⟨ad, e, hb, hc⟩ := h.row.2 (by omega)
  refine ⟨ad, e, hb, fun i u hu => hc _ _ ?_⟩
  have hi : i < 12 := by have := (Array.getElem?_eq_some_iff.1 hu).1; simpa [Rec.cells] using this
  rw [recCells_get hx i hi, hu]

/-- A name and a Data that the form can hold. -/
structure Rec.Fits (r : Rec) : Prop where
  name : r.Name.size ≤ 140737488351232
  data : r.Data.length ≤ 140737488351232
theorem Rec.Fits.zero : Rec.zero.Fits := ⟨by decide, by decide⟩

section
variable {H : Type} {enc : TypeId × Value → H} {w : World} {base : Nat} {spare : Nat → Bool} {held : Bool}
theorem rec_fits {r : Rec} {dd : DataW H} (hd : (dd = .nil ∧ r.Data = []) ∨ ∃ sp, dd = .slice (u8d r.Data) sp) (h : ∀ n ∈ (recd r dd).weights Tryd.prog 27, n ≤ reachBytes) : r.Fits := by
  refine ⟨?_, rec_weight hd h⟩
  have := h r.Name.data.toList.length (by simp [recd, DataW.weights, DataW.weightsEach, Tryd.underlying27])
  have e : r.Name.size = r.Name.data.toList.length := rfl
  unfold reachBytes at this
  omega

/-- A []api.Record. -/
theorem trod_recs {fuel : Nat} {cs : List Value} {x : DataW H × List MemPlace} (h : DataW.trod enc Tryd.prog w base spare held fuel 22 cs = some x) :
    ∃ (A : Option Addr) (l : List RA) (c : Nat), cs = [.slice A l.length c] ∧ RR w A l ∧ l.length ≤ c ∧ ((∀ n ∈ x.1.weights Tryd.prog 22, n ≤ reachBytes) → l.length * 120 ≤ 140737488351232 ∧ ∀ y ∈ l, y.1.Fits) := by
  rcases open_slice Tryd.underlying22 h with ⟨rfl, rfl⟩ | ⟨a, len, cap, m, n, D, Pl, rfl, hb, hl, hm, hmm, rfl, hx⟩
  · exact ⟨none, [], 0, rfl, RR.nil, by simp, fun _ => ⟨by simp, fun y hy => by cases hy⟩⟩
  · have hlm : len ≤ m := by rw [hmm]; split <;> omega
    have hall : ∀ i, i < len → ∃ y : RA, w.cells? base (a.add (i * 12)) 12 = some y.cs ∧ RB w y.2.1 y.1.Data ∧ ∃ dd, D i = recd y.1 dd ∧ ((dd = .nil ∧ y.1.Data = []) ∨ ∃ sp, dd = .slice (u8d y.1.Data) sp) := by
      intro i hi
      obtain ⟨cs', h1, h2⟩ := hx i (by omega)
      rw [cells_rec] at h1
      obtain ⟨r, A, c, dd, rfl, hrb, _, _, he, hd⟩ := trod_rec h2
      exact ⟨(r, A, c), h1, hrb, dd, he, hd⟩
    haveI : Inhabited RA := ⟨(Rec.zero, none, 0)⟩
    obtain ⟨f, hf⟩ := choose_lt hall
    have hget : ∀ k x, ((List.range len).map f)[k]? = some x → k < len ∧ x = f k := by
      intro k x hk
      have hk' : k < len := by
        have := (List.getElem?_eq_some_iff.1 hk).1
        simpa using this
      rw [List.getElem?_map, List.getElem?_range hk'] at hk
      exact ⟨hk', by simpa using hk.symm⟩
    refine ⟨some a, (List.range len).map f, cap, by simp, ⟨⟨by rw [recCells_length], fun hn => ⟨a, rfl, ?_, ?_⟩⟩, ?_⟩, by simpa using hl, ?_⟩
    · simp at hn
      obtain ⟨h1, _⟩ := hf 0 hn
      obtain ⟨_, _, h3⟩ := World.cells?_some h1
      have := World.block_lt_of_cell? w _ ((h3 0 (by omega)).trans (by rw [RA.cs_get]; exact Rec.g0 _ _ _))
      rw [block_of_add, block_of_add] at this
      exact this
    · intro j u hu
      have hj : j < len * 12 := by
        have := (List.getElem?_eq_some_iff.1 hu).1
        rw [recCells_length] at this
        simpa using this
      have hk : j / 12 < len := by omega
      have hg : ((List.range len).map f)[j / 12]? = some (f (j / 12)) := by rw [List.getElem?_map, List.getElem?_range hk]; rfl
      have hr := recCells_get hg (j % 12) (by omega)
      rw [show j / 12 * 12 + j % 12 = j by omega, hu] at hr
      obtain ⟨h1, _⟩ := hf _ hk
      obtain ⟨_, _, h3⟩ := World.cells?_some h1
      have := h3 (j % 12) (by omega)
      rw [add_of_add, show j / 12 * 12 + j % 12 = j by omega, RA.cs_get, ← hr] at this
      exact this
    · intro x hx
      obtain ⟨i, hi, rfl⟩ := List.mem_map.1 hx
      exact (hf i (by simpa using hi)).2.1
    · intro hw
      have hbr : Tryd.prog.bytesOf 27 = 120 := by kernel_rfl
      constructor
      · have := hw ((((List.range len).map D).length + ((List.range (m - len)).map fun j => D (len + j)).length) * 120) (by simp [DataW.weights, Tryd.underlying22, hbr])
        unfold reachBytes at this
        simp at this ⊢
        omega
      · intro y hy
        obtain ⟨i, hi, rfl⟩ := List.mem_map.1 hy
        have hi' : i < len := by simpa using hi
        obtain ⟨_, _, dd, he, hd⟩ := hf i hi'
        refine rec_fits hd fun n hn => hw n ?_
        rw [← he] at hn
        simp only [DataW.weights, Tryd.underlying22, List.mem_cons, List.mem_append]
        refine .inr (.inl ?_)
        have : ∀ l : List (DataW H), D i ∈ l → n ∈ DataW.weightsAll Tryd.prog 27 l := by
          intro l
          induction l with
          | nil => intro h; cases h
          | cons d l ih =>
            intro h
            simp only [DataW.weightsAll, List.mem_append]
            rcases List.mem_cons.1 h with rfl | h
            · exact .inl hn
            · exact .inr (ih h)
        exact this _ (List.mem_map.2 ⟨i, by simpa using hi', rfl⟩)
end
end Go.Proofs.YtikodgaomhmbmaaDoor
