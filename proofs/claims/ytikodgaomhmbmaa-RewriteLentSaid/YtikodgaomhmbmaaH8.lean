/-
  The walk of annalslaw4.filled: all lists are written full, and lengthened three times.
-/
import Derived.Test.YtikodgaomhmbmaaH7
set_option linter.unusedVariables false
set_option linter.unusedSimpArgs false
namespace Go.Proofs.Ytikodgaomhmbmaa
open Go.RowKit

/-- The rows, each full of its mark. -/
def marks (l : List BA) : List BA := l.mapIdx fun i x => (MK i x.1.length, x.2)
theorem marks_len (l : List BA) : (marks l).length = l.length := by simp [marks]
theorem marks_get (l : List BA) (i : Nat) : (marks l)[i]? = l[i]?.map fun x => (MK i x.1.length, x.2) := by unfold marks; rw [List.getElem?_mapIdx]
/-- What may stand in a row and behind it. -/
def F4 (l : List BA) (i : Nat) : List UInt8 := MK i (((l[i]?).map fun x => x.1.length).getD 0) ++ TL i 70
theorem F4_at {l : List BA} {i : Nat} {x : BA} (h : l[i]? = some x) : F4 l i = MK i x.1.length ++ TL i 70 := by simp [F4, h]
theorem F4_pre {l : List BA} {i : Nat} {x : BA} (h : l[i]? = some x) {j : Nat} (hj : j ≤ 70) : MK i x.1.length ++ TL i j <+: F4 l i := by
  rw [F4_at h]
  refine ⟨TL i (70 - j), ?_⟩
  rw [List.append_assoc, TL_add, show j + (70 - j) = 70 by omega]
theorem F4_pre0 {l : List BA} {i : Nat} {x : BA} (h : l[i]? = some x) : MK i x.1.length <+: F4 l i := by
  rw [F4_at h]
  exact List.prefix_append _ _
/-- What filled hands out for the rows l. -/
structure More (l : List BA) (k : Nat) (ms : List (Nat × BA)) : Prop where
  len : ms.length = 3 * k
  at_ : ∀ i x, i < k → l[i]? = some x → ∃ y1 y2 y3 : Nat × BA, ms[3 * i]? = some y1 ∧ ms[3 * i + 1]? = some y2 ∧ ms[3 * i + 2]? = some y3 ∧ y1.2.1 = MK i x.1.length ++ TL i 1 ∧ y2.2.1 = MK i x.1.length ++ TL i 2 ∧ y3.2.1 = MK i x.1.length ++ TL i 70
theorem More.nil {l : List BA} : More l 0 [] := ⟨rfl, fun i x h => by omega⟩
theorem More.snoc {l : List BA} {k : Nat} {ms : List (Nat × BA)} (h : More l k ms) {x : BA} (hx : l[k]? = some x) {y1 y2 y3 : Nat × BA} (h1 : y1.2.1 = MK k x.1.length ++ TL k 1) (h2 : y2.2.1 = MK k x.1.length ++ TL k 2) (h3 : y3.2.1 = MK k x.1.length ++ TL k 70) : More l (k + 1) (ms ++ [y1, y2, y3]) := by
  refine ⟨by simp [h.len]; omega, fun i z hi hz => ?_⟩
  rcases Nat.lt_or_ge i k with hik | hik
  · obtain ⟨a, b, c, ha, hb, hc, r⟩ := h.at_ i z hik hz
    refine ⟨a, b, c, ?_, ?_, ?_, r⟩
    · rw [List.getElem?_append_left (by rw [h.len]; omega)]; exact ha
    · rw [List.getElem?_append_left (by rw [h.len]; omega)]; exact hb
    · rw [List.getElem?_append_left (by rw [h.len]; omega)]; exact hc
  · obtain rfl : i = k := by omega
    rw [hx] at hz
    injection hz with hz
    subst hz
    refine ⟨y1, y2, y3, ?_, ?_, ?_, h1, h2, h3⟩
    · rw [List.getElem?_append_right (by rw [h.len]; omega), h.len, Nat.sub_self]; rfl
    · rw [List.getElem?_append_right (by rw [h.len]; omega), h.len, show 3 * i + 1 - 3 * i = 1 by omega]; rfl
    · rw [List.getElem?_append_right (by rw [h.len]; omega), h.len, show 3 * i + 2 - 3 * i = 2 by omega]; rfl

/-- Rows that are being filled: the first i are, of the next one the first j bytes. -/
structure Filling (w0 : World) (l : List BA) (base : Nat) (w : World) (i j : Nat) (cur : List BA) : Prop where
  rows : OBs w base cur
  len : cur.length = l.length
  at_ : ∀ k x, l[k]? = some x → ∃ b', cur[k]? = some (b', x.2) ∧ b'.length = x.1.length ∧ (k < i → b' = MK k x.1.length) ∧ (k = i → b'.take j = MK k j)
  sp : Spared w0 w l
theorem Filling.start {l : List BA} {base : Nat} {w : World} (h : OBs w base l) : Filling w l base w 0 0 l := ⟨h, rfl, fun k x hx => ⟨x.1, hx, rfl, fun h => by omega, fun _ => by simp [MK]⟩, Spared.refl⟩
theorem Filling.next_row {w0 w : World} {l : List BA} {base i j : Nat} {cur : List BA} (h : Filling w0 l base w i j cur) {x : BA} (hx : l[i]? = some x) (hj : j = x.1.length) : Filling w0 l base w (i + 1) 0 cur := by
  refine ⟨h.rows, h.len, fun k y hy => ?_, h.sp⟩
  obtain ⟨b', h1, h2, h3, h4⟩ := h.at_ k y hy
  refine ⟨b', h1, h2, fun hk => ?_, fun _ => by simp [MK]⟩
  rcases Nat.lt_or_ge k i with hki | hki
  · exact h3 hki
  · obtain rfl : k = i := by omega
    rw [hx] at hy
    injection hy with hy
    subst hy
    have := h4 rfl
    rw [hj, List.take_of_length_le (by omega)] at this
    exact this
theorem Filling.done {w0 w : World} {l : List BA} {base j : Nat} {cur : List BA} (h : Filling w0 l base w l.length j cur) : cur = marks l := by
  apply List.ext_getElem?
  intro k
  rw [marks_get]
  cases hx : l[k]? with
  | none => rw [List.getElem?_eq_none (by rw [h.len]; exact List.getElem?_eq_none_iff.1 hx)]; rfl
  | some x =>
    obtain ⟨b', h1, h2, h3, h4⟩ := h.at_ k x hx
    rw [h1, h3 (List.getElem?_eq_some_iff.1 hx).1]
    rfl
/-- One byte more. -/
theorem Filling.byte {w0 w w' : World} {l : List BA} {base i j g c : Nat} {cur : List BA} (h : Filling w0 l base w i j cur) {b b' : List UInt8} (hx : l[i]? = some (b, some ⟨g, 0, none⟩, c)) (hb : cur[i]? = some (b', some ⟨g, 0, none⟩, c)) (hj : j < b.length)
    (hy : OB w' base (some ⟨g, 0, none⟩) c (b'.set j (UInt8.ofNat (1 + i % 250)))) (hgr : w.grownBy w' (some g)) : Filling w0 l base w' i (j + 1) (cur.set i (b'.set j (UInt8.ofNat (1 + i % 250)), some ⟨g, 0, none⟩, c)) := by
  refine ⟨h.rows.set_ hb hy hgr, by rw [List.length_set]; exact h.len, fun k y hyk => ?_, h.sp.step (A := some ⟨g, 0, none⟩) hgr (fun ad e => .inr ⟨_, List.mem_of_getElem? hx, rfl⟩)⟩
  obtain ⟨b2, h1, h2, h3, h4⟩ := h.at_ k y hyk
  by_cases hk : k = i
  · subst hk
    rw [hx] at hyk
    injection hyk with hyk
    subst hyk
    rw [hb] at h1
    injection h1 with h1
    injection h1 with h1 _
    subst h1
    refine ⟨b'.set j (UInt8.ofNat (1 + k % 250)), by rw [List.getElem?_set_self (List.getElem?_eq_some_iff.1 hb).1], by simpa using h2, fun h => by omega, fun _ => ?_⟩
    have h4 := h4 rfl
    have hjl : j < b'.length := by simpa [h2] using hj
    rw [List.take_add_one, List.take_set_of_le (Nat.le_refl _), h4, List.getElem?_set_self hjl]
    show MK k j ++ [UInt8.ofNat (1 + k % 250)] = _
    unfold MK
    rw [List.replicate_succ']
  · exact ⟨b2, by rw [List.getElem?_set_ne (fun e => hk e.symm)]; exact h1, h2, h3, fun e => absurd e hk⟩
theorem Filling.get {w0 w : World} {l : List BA} {base i j : Nat} {cur : List BA} (h : Filling w0 l base w i j cur) {k : Nat} {b : List UInt8} {A : Option Addr} {c : Nat} (hx : l[k]? = some (b, A, c)) : ∃ b', cur[k]? = some (b', A, c) ∧ b'.length = b.length := by
  obtain ⟨b', h1, h2, _⟩ := h.at_ k _ hx
  exact ⟨b', h1, h2⟩

theorem fill_start {w wr : World} {l : List BA} {base i j : Nat} (hQ : OBs w base l) (h : Filling w l base wr i j (marks l)) (hbase : base ≤ w.heap.size) : Fill (F4 l) w l base wr (tagged (marks l)) := by
  refine Fill.start h.rows h.sp (fun x hx => ?_) (fun k x hx => ?_) hbase
  · obtain ⟨k, hk⟩ := List.mem_iff_getElem?.1 hx
    rw [marks_get] at hk
    obtain ⟨y, hy, rfl⟩ := Option.map_eq_some_iff.1 hk
    exact ⟨y, List.mem_of_getElem? hy, rfl⟩
  · rw [marks_get] at hx
    obtain ⟨y, hy, rfl⟩ := Option.map_eq_some_iff.1 hx
    exact F4_pre0 hy
/-- What filled says. -/
def FillSaid (l : List BA) (n base : Nat) (w : World) (e : Ending) (w' : World) : Prop :=
  ∃ (A' : Option Addr) (c' : Nat) (ts : List (Nat × BA)), e = .returned (.slice A' (3 * n) c') ∧ More l n ts ∧ w'.ownsRow w.heap.size 23 1 (.slice A' (3 * n) c') (3 * n) (baCells (ts.map (·.2))) ∧ Fill (F4 l) w l base w' (tagged (marks l) ++ ts)

theorem baCells_marks (l : List BA) : baCells (marks l) = baCells l := by
  apply List.ext_getElem?
  intro k
  unfold baCells
  rw [List.getElem?_map, List.getElem?_map, marks_get]
  cases l[k]? with
  | none => rfl
  | some x => simp [MK_len]
end Go.Proofs.Ytikodgaomhmbmaa
