/-
  annalsref2.piece in the model's own words of decoding.
-/
import Derived.Test.YtikodgaomhmbmaaDoorN5
set_option linter.unusedVariables false
set_option linter.unusedSimpArgs false
namespace Go.Proofs.YtikodgaomhmbmaaDoor
open Go.RowKit

/-- What the reference gives for the piece at i: -1 where the byte is a stray one. -/
def pieceR (s : ByteArray) (i : Nat) : Int := if (Utf8.decode s i).2 = 1 ∧ 128 ≤ (s.get! (i + 0)).toNat then -1 else (Utf8.decode s i).1
theorem get_of (s : ByteArray) (j : Nat) (h : j < s.size) : s.get! j = s[j] := get_at s j h
theorem piece_of_bad {s : ByteArray} {i : Nat} (h : Utf8.decode s i = (65533, 1)) (h0 : 128 ≤ (s.get! (i + 0)).toNat) : pieceR s i = -1 ∧ (Utf8.decode s i).2 = 1 := by
  unfold pieceR
  rw [h]
  rw [if_pos ⟨rfl, h0⟩]
  exact ⟨rfl, rfl⟩
theorem piece_of_good {s : ByteArray} {i c n : Nat} (h : Utf8.decode s i = (c, n)) (h0 : 2 ≤ n) : pieceR s i = (c : Int) ∧ (Utf8.decode s i).2 = n := by
  unfold pieceR
  rw [h]
  rw [if_neg (by simp only; omega)]
  exact ⟨rfl, rfl⟩
theorem decode_odd {s : ByteArray} {i b0 : Nat} (e0 : (s.get! (i + 0)).toNat = b0) (h1 : 128 ≤ b0) (h2 : b0 < 192 ∨ 248 ≤ b0) : Utf8.decode s i = (65533, 1) := by
  simp only [Utf8.decode, e0]
  have a1 : (b0 / 32 == 6) = false := by rw [beq_eq_false_iff_ne]; omega
  have a2 : (b0 / 16 == 14) = false := by rw [beq_eq_false_iff_ne]; omega
  have a3 : (b0 / 8 == 30) = false := by rw [beq_eq_false_iff_ne]; omega
  rw [if_neg (by omega)]
  simp [a1, a2, a3, Utf8.runeError]
theorem decode_two {s : ByteArray} {i b0 b1 : Nat} (e0 : (s.get! (i + 0)).toNat = b0) (e1 : (s.get! (i + 1)).toNat = b1) (h1 : 192 ≤ b0) (h2 : b0 < 224) :
    Utf8.decode s i = if i + 1 < s.size ∧ b1 / 64 = 2 ∧ 194 ≤ b0 then ((b0 - 192) * 64 + (b1 - 128), 2) else (65533, 1) := by
  have a1 : (b0 / 32 == 6) = true := by rw [beq_iff_eq]; omega
  have a2 : (b0 / 16 == 14) = false := by rw [beq_eq_false_iff_ne]; omega
  have a3 : (b0 / 8 == 30) = false := by rw [beq_eq_false_iff_ne]; omega
  simp only [Utf8.decode, e0, e1, a1, a2, a3, Bool.true_and, Bool.false_and, Bool.false_eq_true, if_false, Bool.and_eq_true, decide_eq_true_eq, beq_iff_eq]
  rw [if_neg (by omega)]
  by_cases hc : i + 1 < s.size ∧ b1 / 64 = 2
  · rw [if_pos hc]
    have hv : b0 % 32 * 64 + b1 % 64 = (b0 - 192) * 64 + (b1 - 128) := by omega
    rw [hv]
    by_cases hl : 194 ≤ b0
    · rw [if_pos (by omega), if_pos ⟨hc.1, hc.2, hl⟩]
    · rw [if_neg (by omega), if_neg (by omega)]
      rfl
  · rw [if_neg hc, if_neg (fun h => hc ⟨h.1, h.2.1⟩)]
    rfl
theorem valid_iff (c : Nat) : Utf8.valid c = true ↔ c ≤ 1114111 ∧ ¬ (55296 ≤ c ∧ c ≤ 57343) := by
  simp only [Utf8.valid, Bool.and_eq_true, Bool.or_eq_true, decide_eq_true_eq, Bool.not_eq_true', decide_eq_false_iff_not]
  omega
theorem decode_three {s : ByteArray} {i b0 b1 b2 : Nat} (e0 : (s.get! (i + 0)).toNat = b0) (e1 : (s.get! (i + 1)).toNat = b1) (e2 : (s.get! (i + 2)).toNat = b2) (h1 : 224 ≤ b0) (h2 : b0 < 240) :
    Utf8.decode s i = if (i + 1 < s.size ∧ b1 / 64 = 2) ∧ (i + 2 < s.size ∧ b2 / 64 = 2) ∧ 2048 ≤ ((b0 - 224) * 64 + (b1 - 128)) * 64 + (b2 - 128) ∧ ¬ (55296 ≤ ((b0 - 224) * 64 + (b1 - 128)) * 64 + (b2 - 128) ∧ ((b0 - 224) * 64 + (b1 - 128)) * 64 + (b2 - 128) ≤ 57343) then (((b0 - 224) * 64 + (b1 - 128)) * 64 + (b2 - 128), 3) else (65533, 1) := by
  have a1 : (b0 / 32 == 6) = false := by rw [beq_eq_false_iff_ne]; omega
  have a2 : (b0 / 16 == 14) = true := by rw [beq_iff_eq]; omega
  have a3 : (b0 / 8 == 30) = false := by rw [beq_eq_false_iff_ne]; omega
  simp only [Utf8.decode, e0, e1, e2, a1, a2, a3, Bool.true_and, Bool.false_and, Bool.false_eq_true, if_false, Bool.and_eq_true, decide_eq_true_eq, beq_iff_eq, valid_iff]
  rw [if_neg (by omega)]
  by_cases hc : (i + 1 < s.size ∧ b1 / 64 = 2) ∧ (i + 2 < s.size ∧ b2 / 64 = 2)
  · rw [if_pos hc]
    have hv : b0 % 16 * 4096 + b1 % 64 * 64 + b2 % 64 = ((b0 - 224) * 64 + (b1 - 128)) * 64 + (b2 - 128) := by omega
    rw [hv]
    by_cases hl : 2048 ≤ ((b0 - 224) * 64 + (b1 - 128)) * 64 + (b2 - 128) ∧ ¬ (55296 ≤ ((b0 - 224) * 64 + (b1 - 128)) * 64 + (b2 - 128) ∧ ((b0 - 224) * 64 + (b1 - 128)) * 64 + (b2 - 128) ≤ 57343)
    · rw [if_pos ⟨hl.1, by omega, hl.2⟩, if_pos ⟨hc.1, hc.2, hl.1, hl.2⟩]
    · rw [if_neg (fun h => hl ⟨h.1, h.2.2⟩), if_neg (fun h => hl ⟨h.2.2.1, h.2.2.2⟩)]
      rfl
  · rw [if_neg hc, if_neg (fun h => hc ⟨h.1, h.2.1⟩)]
    rfl
theorem decode_four {s : ByteArray} {i b0 b1 b2 b3 : Nat} (e0 : (s.get! (i + 0)).toNat = b0) (e1 : (s.get! (i + 1)).toNat = b1) (e2 : (s.get! (i + 2)).toNat = b2) (e3 : (s.get! (i + 3)).toNat = b3) (h1 : 240 ≤ b0) (h2 : b0 < 248) :
    Utf8.decode s i = if (i + 1 < s.size ∧ b1 / 64 = 2) ∧ (i + 2 < s.size ∧ b2 / 64 = 2) ∧ (i + 3 < s.size ∧ b3 / 64 = 2) ∧ 65536 ≤ (((b0 - 240) * 64 + (b1 - 128)) * 64 + (b2 - 128)) * 64 + (b3 - 128) ∧ (((b0 - 240) * 64 + (b1 - 128)) * 64 + (b2 - 128)) * 64 + (b3 - 128) ≤ 1114111 then ((((b0 - 240) * 64 + (b1 - 128)) * 64 + (b2 - 128)) * 64 + (b3 - 128), 4) else (65533, 1) := by
  have a1 : (b0 / 32 == 6) = false := by rw [beq_eq_false_iff_ne]; omega
  have a2 : (b0 / 16 == 14) = false := by rw [beq_eq_false_iff_ne]; omega
  have a3 : (b0 / 8 == 30) = true := by rw [beq_iff_eq]; omega
  simp only [Utf8.decode, e0, e1, e2, e3, a1, a2, a3, Bool.true_and, Bool.false_and, Bool.false_eq_true, if_false, Bool.and_eq_true, decide_eq_true_eq, beq_iff_eq, valid_iff]
  rw [if_neg (by omega)]
  by_cases hc : ((i + 1 < s.size ∧ b1 / 64 = 2) ∧ (i + 2 < s.size ∧ b2 / 64 = 2)) ∧ (i + 3 < s.size ∧ b3 / 64 = 2)
  · rw [if_pos hc]
    have hv : b0 % 8 * 262144 + b1 % 64 * 4096 + b2 % 64 * 64 + b3 % 64 = (((b0 - 240) * 64 + (b1 - 128)) * 64 + (b2 - 128)) * 64 + (b3 - 128) := by omega
    rw [hv]
    by_cases hl : 65536 ≤ (((b0 - 240) * 64 + (b1 - 128)) * 64 + (b2 - 128)) * 64 + (b3 - 128) ∧ (((b0 - 240) * 64 + (b1 - 128)) * 64 + (b2 - 128)) * 64 + (b3 - 128) ≤ 1114111
    · rw [if_pos ⟨hl.1, hl.2, by omega⟩, if_pos ⟨hc.1.1, hc.1.2, hc.2, hl.1, hl.2⟩]
    · rw [if_neg (fun h => hl ⟨h.1, h.2.1⟩), if_neg (fun h => hl ⟨h.2.2.2.1, h.2.2.2.2⟩)]
      rfl
  · rw [if_neg hc, if_neg (fun h => hc ⟨⟨h.1, h.2.1⟩, h.2.2.1⟩)]
    rfl
end Go.Proofs.YtikodgaomhmbmaaDoor
