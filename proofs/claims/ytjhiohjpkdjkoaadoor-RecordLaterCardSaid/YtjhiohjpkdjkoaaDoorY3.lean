/-
  A valid record is written and read again; what is read is valid and was written so; what is read in version 2 is read in version 3. Plain.
-/
import Derived.Test.YtjhiohjpkdjkoaaDoorY2
set_option linter.unusedVariables false
set_option linter.unusedSimpArgs false
namespace Go.Proofs.YtjhiohjpkdjkoaaDoor
open Go.RowKit

theorem wf_range {x : Int} (h : (Lit.int .i64 x).wf = true) : -9223372036854775808 ≤ x ∧ x ≤ 9223372036854775807 := by
  simp only [Lit.wf, IntKind.min, IntKind.max, IntKind.signed, IntKind.bits, Bool.and_eq_true, decide_eq_true_eq, if_true] at h
  omega
theorem wide_of {r : Rec} (hi : r.Ints) (h : r.chk = 0) : r.Wide := by
  obtain ⟨v, k, hv, hk, h1, h2, hs, hval⟩ := (chk_valid r).1 h
  obtain ⟨s1, s2⟩ := valid_small h
  refine ⟨fun t a b hne => ?_, wf_range hi.code, s1, s2⟩
  rcases tag_cases a (by omega) with rfl | rfl | rfl | rfl | rfl | rfl | rfl | rfl | rfl | rfl | rfl
  case inr.inr.inr.inr.inr.inr.inl => omega
  case inr.inr.inr.inr.inr.inr.inr.inr.inr.inl => omega
  case inr.inr.inr.inr.inr.inr.inr.inr.inr.inr => omega
  · show 0 ≤ r.Kind ∧ r.Kind ≤ _
    omega
  · show 0 ≤ r.Saga ∧ r.Saga ≤ _
    have := wf_range hi.saga
    omega
  · show 0 ≤ r.Step ∧ r.Step ≤ _
    have := wf_range hi.step
    have e := hval 3 (by omega) (by omega)
    split at e
    · rw [b3] at e
      split at e <;> omega
    · rw [z3] at e
      omega
  · show 0 ≤ r.Try ∧ r.Try ≤ _
    have := wf_range hi.try_
    have e := hval 4 (by omega) (by omega)
    split at e
    · rw [b4] at e
      omega
    · rw [z4] at e
      omega
  · show 0 ≤ r.At ∧ r.At ≤ _
    have := wf_range hi.at_
    have e := hval 5 (by omega) (by omega)
    split at e
    · rw [b5] at e
      omega
    · rw [z5] at e
      omega
  · show 0 ≤ r.Last ∧ r.Last ≤ _
    have := wf_range hi.last
    have e := hval 6 (by omega) (by omega)
    split at e
    · rw [b6] at e
      omega
    · rw [z6] at e
      omega
  · show 0 ≤ r.Count ∧ r.Count ≤ _
    have := wf_range hi.count
    have e := hval 8 (by omega) (by omega)
    split at e
    · rw [b8] at e
      omega
    · rw [z8] at e
      omega
  · show 0 ≤ r.Pivot ∧ r.Pivot ≤ _
    have := wf_range hi.pivot
    have e := hval 9 (by omega) (by omega)
    split at e
    · rw [b9] at e
      omega
    · rw [z9] at e
      omega
/-- A valid record's bytes are read as the record. -/
theorem dec_of_enc {r : Rec} (hi : r.Ints) (h : r.chk = 0) : decE r.V r.enc = 0 ∧ decR r.V r.enc = r := by
  have hv := ((chk_ok r).1 h).1
  have e : decN 12 (startR r.V) 0 r.enc = (r, 0) := by
    have := dec_enc r (wide_of hi h) 11 1 (by omega) (by omega) 12 0 (by omega) (by omega)
    rw [← enc_all] at this
    exact this
  have e0 : decE r.V r.enc = 0 := by
    unfold decE
    rw [if_neg (by omega), e]
    simpa using h
  refine ⟨e0, ?_⟩
  unfold decR
  rw [if_pos e0, e]
/-- What is read is valid, of that version, and its bytes are those that were read. -/
theorem enc_of_dec {v : Int} {s : List UInt8} (h : decE v s = 0) : (decR v s).enc = s ∧ (decR v s).chk = 0 ∧ (decR v s).V = v ∧ 1 ≤ v ∧ v ≤ 3 := by
  have e : decR v s = (decN 12 (startR v) 0 s).1 := if_pos h
  unfold decE at h
  split at h
  · omega
  · rename_i hv
    split at h
    · rename_i h0
      exact absurd h h0
    · rename_i h0
      obtain ⟨_, d2, d3⟩ := dec_back 12 (startR v) 0 s (by simpa using h0) (by omega) (by omega) rfl
      rw [e]
      refine ⟨?_, h, by rw [d3]; rfl, by omega, by omega⟩
      rw [enc_all]
      exact d2.symm
/-- The version plays no part. -/
theorem val_V (r : Rec) (v : Int) (t : Nat) (s : List UInt8) : valR { r with V := v } t s = ({ (valR r t s).1 with V := v }, (valR r t s).2) := by
  have hp : ∀ x, ({ r with V := v } : Rec).put t x = { r.put t x with V := v } := fun x => by unfold Rec.put; split <;> rfl
  unfold valR
  by_cases h7 : t = 7
  · rw [if_pos h7, if_pos h7]
    rfl
  by_cases h10 : t = 10
  · rw [if_neg h7, if_pos h10, if_neg h7, if_pos h10]
  by_cases h11 : t = 11
  · rw [if_neg h7, if_neg h10, if_pos h11, if_neg h7, if_neg h10, if_pos h11]
  rw [if_neg h7, if_neg h10, if_neg h11, if_neg h7, if_neg h10, if_neg h11]
  by_cases h0 : (readL 0 0 s).2.2 = 0
  · have hn : ¬ (readL 0 0 s).2.2 ≠ 0 := fun h => h h0
    rw [if_neg hn, if_neg hn]
    by_cases hm : 9223372036854775807 < (readL 0 0 s).1
    · rw [if_pos hm, if_pos hm]
    · rw [if_neg hm, if_neg hm]
      exact Prod.ext (hp _) rfl
  · rw [if_pos h0, if_pos h0]
theorem zeroAt_V (r : Rec) (v : Int) (t : Nat) (h1 : 1 ≤ t) (h11 : t ≤ 11) : ({ r with V := v } : Rec).zeroAt t = r.zeroAt t := by
  rcases tag_cases h1 h11 with rfl | rfl | rfl | rfl | rfl | rfl | rfl | rfl | rfl | rfl | rfl
  all_goals rfl
theorem field_V (r : Rec) (v : Int) (last : Nat) (s : List UInt8) : fieldR { r with V := v } last s = ({ (fieldR r last s).1 with V := v }, (fieldR r last s).2) := by
  unfold fieldR
  by_cases h0 : (readL 0 0 s).2.2 ≠ 0
  · rw [if_pos h0, if_pos h0]
  rw [if_neg h0, if_neg h0]
  by_cases hb : (readL 0 0 s).1 = 0 ∨ 11 < (readL 0 0 s).1 ∨ (readL 0 0 s).1 ≤ last
  · rw [if_pos hb, if_pos hb]
  rw [if_neg hb, if_neg hb, val_V]
  simp only
  by_cases hv : (valR r (readL 0 0 s).1 (s.drop (readL 0 0 s).2.1)).2.2 ≠ 0
  · rw [if_pos hv, if_pos hv]
  rw [if_neg hv, if_neg hv, zeroAt_V _ v _ (by omega) (by omega)]
  cases (valR r (readL 0 0 s).1 (s.drop (readL 0 0 s).2.1)).1.zeroAt (readL 0 0 s).1 <;> rfl
theorem dec_V : ∀ n (r : Rec) (v : Int) (last : Nat) (s : List UInt8), decN n { r with V := v } last s = ({ (decN n r last s).1 with V := v }, (decN n r last s).2)
  | 0, _, _, _, _ => rfl
  | n + 1, r, v, last, s => by
    unfold decN
    by_cases hs : s = []
    · rw [if_pos hs, if_pos hs]
    rw [if_neg hs, if_neg hs, field_V]
    simp only
    by_cases he : (fieldR r last s).2.2.2 ≠ 0
    · rw [if_pos he, if_pos he]
    rw [if_neg he, if_neg he, dec_V n]
/-- What is read in version 2 is read in version 3 as the same. -/
theorem dec_later {s : List UInt8} (h : decE 2 s = 0) : decE 3 s = 0 ∧ decR 3 s = { decR 2 s with V := 3 } := by
  have e2 : decR 2 s = (decN 12 (startR 2) 0 s).1 := if_pos h
  obtain ⟨_, hc, hv, _⟩ := enc_of_dec h
  rw [e2] at hc hv
  have e3 : decN 12 (startR 3) 0 s = ({ (decN 12 (startR 2) 0 s).1 with V := 3 }, (decN 12 (startR 2) 0 s).2) := dec_V 12 (startR 2) 3 0 s
  have h2 : (decN 12 (startR 2) 0 s).2 = 0 := by
    unfold decE at h
    rw [if_neg (by omega)] at h
    split at h
    · exact h
    · rename_i h0
      simpa using h0
  have hc3 : ({ (decN 12 (startR 2) 0 s).1 with V := 3 } : Rec).chk = 0 := by
    obtain ⟨v, k, hv', hk, h1, hk2, hs, hval⟩ := (chk_valid _).1 hc
    obtain rfl : v = 2 := by omega
    exact chk_of (v := 3) rfl hk (by omega) hk2 hs (valid_stay hk2 hv hk hval)
  have e0 : decE 3 s = 0 := by
    unfold decE
    rw [if_neg (by omega), e3]
    simp only
    rw [if_neg (by simp [h2])]
    exact hc3
  refine ⟨e0, ?_⟩
  unfold decR
  rw [if_pos e0, if_pos h, e3]
end Go.Proofs.YtjhiohjpkdjkoaaDoor
