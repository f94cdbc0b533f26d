/-
  annalsref2.Name: what its pieces say of a name; the walk.
-/
import Derived.Test.YtikodgaomhmbmaaDoorN11
import Derived.Deep.MidRow
set_option linter.unusedVariables false
set_option linter.unusedSimpArgs false
namespace Go.Proofs.YtikodgaomhmbmaaDoor
open Go.RowKit

theorem decode_stray (s : ByteArray) (i : Nat) (h1 : (Utf8.decode s i).2 = 1) (h0 : 128 ≤ (s.get! (i + 0)).toNat) : (Utf8.decode s i).1 = 65533 := by
  revert h1
  simp only [Utf8.decode]
  rw [if_neg (by omega)]
  repeat' split
  all_goals simp [Utf8.runeError]
theorem piece_rune (s : ByteArray) (i : Nat) : nameRune (pieceR s i) = nameRune ((Utf8.decode s i).1 : Int) ∧ isLetter (pieceR s i) = isLetter ((Utf8.decode s i).1 : Int) ∧ (pieceR s i < 0 → nameRune ((Utf8.decode s i).1 : Int) = false) := by
  unfold pieceR
  split
  · rename_i h
    rw [decode_stray s i h.1 h.2]
    exact ⟨by decide, by decide, fun _ => by decide⟩
  · exact ⟨rfl, rfl, fun h => by omega⟩
theorem runes_of_pieces (s : ByteArray) : ∀ f pos, (pieces_ s f pos).length = (runes s f pos).length ∧ (pieces_ s f pos).map (fun p => nameRune p.1) = (runes s f pos).map nameRune ∧ (pieces_ s f pos).map (fun p => isLetter p.1) = (runes s f pos).map isLetter
  | 0, _ => ⟨rfl, rfl, rfl⟩
  | f + 1, pos => by
    unfold pieces_ runes
    split
    · obtain ⟨h1, h2, h3⟩ := runes_of_pieces s f (pos + (Utf8.decode s pos).2)
      obtain ⟨p1, p2, _⟩ := piece_rune s pos
      exact ⟨by simp [h1], by simp [h2, p1], by simp [h3, p2]⟩
    · exact ⟨rfl, rfl, rfl⟩
theorem pcells_at : ∀ (l : List (Int × Nat × Nat)) (k : Nat) (p : Int × Nat × Nat), l[k]? = some p → (pcells l)[k * 3]? = some (.int .i64 p.1) ∧ (pcells l)[k * 3 + 1]? = some (.int .i64 (p.2.1 : Int)) ∧ (pcells l)[k * 3 + 2]? = some (.int .i64 (p.2.2 : Int))
  | [], k, p, h => by simp at h
  | q :: l, 0, p, h => by
    simp at h
    subst h
    exact ⟨rfl, rfl, rfl⟩
  | q :: l, k + 1, p, h => by
    obtain ⟨h1, h2, h3⟩ := pcells_at l k p (by simpa using h)
    have e : pcells (q :: l) = [.int .i64 q.1, .int .i64 (q.2.1 : Int), .int .i64 (q.2.2 : Int)] ++ pcells l := rfl
    rw [e, show (k + 1) * 3 = 3 + k * 3 by omega]
    refine ⟨?_, ?_, ?_⟩
    · rw [List.getElem?_append_right (by simp)]
      simpa using h1
    · rw [List.getElem?_append_right (by simp; omega), show 3 + k * 3 + 1 - [Value.int .i64 q.1, .int .i64 (q.2.1 : Int), .int .i64 (q.2.2 : Int)].length = k * 3 + 1 by simp; omega]
      exact h2
    · rw [List.getElem?_append_right (by simp; omega), show 3 + k * 3 + 2 - [Value.int .i64 q.1, .int .i64 (q.2.1 : Int), .int .i64 (q.2.2 : Int)].length = k * 3 + 2 by simp; omega]
      exact h3
theorem own_piece {w : World} {base g n c k : Nat} {e : TypeId} {l : List (Int × Nat × Nat)} {p : Int × Nat × Nat} (h : w.ownsRow base e 3 (.slice (some ⟨g, 0, none⟩) n c) n (pcells l)) (hk : l[k]? = some p) :
    w.rangeAt g (k * 3) [.int .i64 p.1, .int .i64 (p.2.1 : Int), .int .i64 (p.2.2 : Int)] := by
  obtain ⟨h1, h2, h3⟩ := pcells_at l k p hk
  intro j v hv
  have hc := h.cells (g := g) rfl (k * 3 + j) v
  rw [Addr.add_mid] at hc
  rw [Nat.zero_add] at hc
  apply hc
  match j, hv with
  | 0, hv => simp at hv; subst hv; exact h1
  | 1, hv => simp at hv; subst hv; exact h2
  | 2, hv => simp at hv; subst hv; exact h3
end Go.Proofs.YtikodgaomhmbmaaDoor
