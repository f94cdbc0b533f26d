/-
  What record.Decode computes, in plain words; what is written is read again, and what is read was written so.
-/
import Derived.Test.YtjhiohjpkdjkoaaDoorY1
import Derived.Test.YtjhiohjpkdjkoaaDoorW7
import Derived.Test.YtjhiohjpkdjkoaaDoorCL
set_option linter.unusedVariables false
set_option linter.unusedSimpArgs false
namespace Go.Proofs.YtjhiohjpkdjkoaaDoor
open Go.RowKit

/-- The record with the number of a tag turned. -/
def Rec.put (r : Rec) (t : Nat) (x : Int) : Rec :=
  match t with
  | 1 => { r with Kind := x }
  | 2 => { r with Saga := x }
  | 3 => { r with Step := x }
  | 4 => { r with Try := x }
  | 5 => { r with At := x }
  | 6 => { r with Last := x }
  | 7 => { r with Code := x }
  | 8 => { r with Count := x }
  | 9 => { r with Pivot := x }
  | _ => r
/-- What record.value reads: the record, how many bytes, the error. -/
def valR (r : Rec) (t : Nat) (s : List UInt8) : Rec × Nat × Int :=
  if t = 7 then (r.put 7 (if (readL 0 0 s).2.2 = 0 then zag (readL 0 0 s).1 else 0), (readL 0 0 s).2.1, (readL 0 0 s).2.2)
  else if t = 10 then ({ r with Name := ⟨(readB 192 s).1.toArray⟩ }, (readB 192 s).2.1, (readB 192 s).2.2)
  else if t = 11 then ({ r with Data := (readB 16384 s).1 }, (readB 16384 s).2.1, (readB 16384 s).2.2)
  else if (readL 0 0 s).2.2 ≠ 0 then (r, 0, (readL 0 0 s).2.2)
  else if 9223372036854775807 < (readL 0 0 s).1 then (r, 0, 34)
  else (r.put t (readL 0 0 s).1, (readL 0 0 s).2.1, 0)
/-- One field: the record, its tag, how many bytes, the error. -/
def fieldR (r : Rec) (last : Nat) (s : List UInt8) : Rec × Nat × Nat × Int :=
  if (readL 0 0 s).2.2 ≠ 0 then (r, 0, 0, (readL 0 0 s).2.2)
  else if (readL 0 0 s).1 = 0 ∨ 11 < (readL 0 0 s).1 ∨ (readL 0 0 s).1 ≤ last then (r, 0, 0, 37)
  else if (valR r (readL 0 0 s).1 (s.drop (readL 0 0 s).2.1)).2.2 ≠ 0 then (r, 0, 0, (valR r (readL 0 0 s).1 (s.drop (readL 0 0 s).2.1)).2.2)
  else if (valR r (readL 0 0 s).1 (s.drop (readL 0 0 s).2.1)).1.zeroAt (readL 0 0 s).1 then (r, 0, 0, 38)
  else ((valR r (readL 0 0 s).1 (s.drop (readL 0 0 s).2.1)).1, (readL 0 0 s).1, (readL 0 0 s).2.1 + (valR r (readL 0 0 s).1 (s.drop (readL 0 0 s).2.1)).2.1, 0)
/-- All fields. -/
def decN : Nat → Rec → Nat → List UInt8 → Rec × Int
  | 0, r, _, _ => (r, 0)
  | n + 1, r, last, s => if s = [] then (r, 0) else if (fieldR r last s).2.2.2 ≠ 0 then (r, (fieldR r last s).2.2.2)
    else decN n (fieldR r last s).1 (fieldR r last s).2.1 (s.drop (fieldR r last s).2.2.1)
def startR (v : Int) : Rec := { Rec.zero with V := v }
def decE (v : Int) (s : List UInt8) : Int :=
  if v < 1 ∨ 3 < v then 3 else if (decN 12 (startR v) 0 s).2 ≠ 0 then (decN 12 (startR v) 0 s).2 else (decN 12 (startR v) 0 s).1.chk
noncomputable def decR (v : Int) (s : List UInt8) : Rec := if decE v s = 0 then (decN 12 (startR v) 0 s).1 else Rec.zero

/-! ### The fields up to a tag -/
def Rec.upto (r : Rec) (n : Nat) : Rec :=
  { V := r.V, Kind := if 1 ≤ n then r.Kind else 0, Saga := if 2 ≤ n then r.Saga else 0, Step := if 3 ≤ n then r.Step else 0, Try := if 4 ≤ n then r.Try else 0, At := if 5 ≤ n then r.At else 0, Last := if 6 ≤ n then r.Last else 0,
    Code := if 7 ≤ n then r.Code else 0, Count := if 8 ≤ n then r.Count else 0, Pivot := if 9 ≤ n then r.Pivot else 0, Name := if 10 ≤ n then r.Name else ⟨#[]⟩, Data := if 11 ≤ n then r.Data else [] }
theorem ite_ite {α : Type} {p q : Prop} [Decidable p] [Decidable q] (h : p → q) (a b : α) : (if p then (if q then a else b) else b) = if p then a else b := by
  by_cases hp : p
  · rw [if_pos hp, if_pos hp, if_pos (h hp)]
  · rw [if_neg hp, if_neg hp]
theorem ite_ite2 {α : Type} {p q : Prop} [Decidable p] [Decidable q] (h : q → p) (a b : α) : (if p then (if q then a else b) else b) = if q then a else b := by
  by_cases hq : q
  · rw [if_pos hq, if_pos (h hq)]
  · rw [if_neg hq]
    split <;> rfl
theorem upto_upto (r : Rec) {m n : Nat} (h : m ≤ n) : (r.upto n).upto m = r.upto m := by
  unfold Rec.upto
  simp only
  congr 1 <;> exact ite_ite (by omega) _ _
theorem upto_upto2 (r : Rec) {m n : Nat} (h : m ≤ n) : (r.upto m).upto n = r.upto m := by
  unfold Rec.upto
  simp only
  congr 1 <;> exact ite_ite2 (by omega) _ _
theorem upto_more {r : Rec} {m n : Nat} (h : r.upto m = r) (hmn : m ≤ n) : r.upto n = r := by
  conv => lhs; rw [← h]
  rw [upto_upto2 r hmn, h]
theorem upto_11 (r : Rec) : r.upto 11 = r := rfl
theorem upto_0 (r : Rec) : r.upto 0 = startR r.V := rfl
theorem tag_cases {t : Nat} (h1 : 1 ≤ t) (h11 : t ≤ 11) : t = 1 ∨ t = 2 ∨ t = 3 ∨ t = 4 ∨ t = 5 ∨ t = 6 ∨ t = 7 ∨ t = 8 ∨ t = 9 ∨ t = 10 ∨ t = 11 := by omega
theorem upto_zeroAt (r : Rec) {t n : Nat} (h1 : 1 ≤ t) (h11 : t ≤ 11) (h : t ≤ n) : (r.upto n).zeroAt t = r.zeroAt t := by
  rcases tag_cases h1 h11 with rfl | rfl | rfl | rfl | rfl | rfl | rfl | rfl | rfl | rfl | rfl
  all_goals simp [Rec.upto, Rec.zeroAt, Rec.num, h]
theorem upto_zero (r : Rec) {t n : Nat} (h1 : 1 ≤ t) (h11 : t ≤ 11) (h : n < t) : (r.upto n).zeroAt t = true := by
  have hn : ¬ t ≤ n := by omega
  rcases tag_cases h1 h11 with rfl | rfl | rfl | rfl | rfl | rfl | rfl | rfl | rfl | rfl | rfl
  all_goals first
    | (simp [Rec.upto, Rec.zeroAt, Rec.num, hn]; done)
    | (simp only [Rec.upto, Rec.zeroAt, if_neg hn]; decide)
/-- A field that is zero adds nothing. -/
theorem upto_skip (r : Rec) {t : Nat} (h1 : 1 ≤ t) (h11 : t ≤ 11) (h : r.zeroAt t = true) : r.upto t = r.upto (t - 1) := by
  rcases tag_cases h1 h11 with rfl | rfl | rfl | rfl | rfl | rfl | rfl | rfl | rfl | rfl | rfl
  case inr.inr.inr.inr.inr.inr.inr.inr.inr.inl => have e := (z10 r).1 h; simp [Rec.upto, e]
  case inr.inr.inr.inr.inr.inr.inr.inr.inr.inr => have e := (z11 r).1 h; simp [Rec.upto, e]
  all_goals
    have e : _ = (0 : Int) := of_decide_eq_true h
    simp [Rec.num] at e
    simp [Rec.upto, e]
theorem put_upto (r : Rec) {t : Nat} (x : Int) (h1 : 1 ≤ t) (h9 : t ≤ 9) : (r.put t x).upto t = (r.upto t).put t x := by
  rcases tag_cases h1 (by omega) with rfl | rfl | rfl | rfl | rfl | rfl | rfl | rfl | rfl | rfl | rfl
  case inr.inr.inr.inr.inr.inr.inr.inr.inr.inl => omega
  case inr.inr.inr.inr.inr.inr.inr.inr.inr.inr => omega
  all_goals rfl
theorem put_below (r : Rec) {t n : Nat} (x : Int) (h1 : 1 ≤ t) (h9 : t ≤ 9) (h : n < t) : (r.put t x).upto n = r.upto n := by
  have hn : ¬ t ≤ n := by omega
  rcases tag_cases h1 (by omega) with rfl | rfl | rfl | rfl | rfl | rfl | rfl | rfl | rfl | rfl | rfl
  case inr.inr.inr.inr.inr.inr.inr.inr.inr.inl => omega
  case inr.inr.inr.inr.inr.inr.inr.inr.inr.inr => omega
  all_goals simp only [Rec.put, Rec.upto, if_neg hn]
theorem put_num (r : Rec) {t : Nat} (x : Int) (h1 : 1 ≤ t) (h9 : t ≤ 9) : (r.put t x).num t = x := by
  rcases tag_cases h1 (by omega) with rfl | rfl | rfl | rfl | rfl | rfl | rfl | rfl | rfl | rfl | rfl
  case inr.inr.inr.inr.inr.inr.inr.inr.inr.inl => omega
  case inr.inr.inr.inr.inr.inr.inr.inr.inr.inr => omega
  all_goals rfl
theorem put_self (r : Rec) {t : Nat} (h1 : 1 ≤ t) (h9 : t ≤ 9) : (r.upto (t - 1)).put t (r.num t) = r.upto t := by
  rcases tag_cases h1 (by omega) with rfl | rfl | rfl | rfl | rfl | rfl | rfl | rfl | rfl | rfl | rfl
  case inr.inr.inr.inr.inr.inr.inr.inr.inr.inl => omega
  case inr.inr.inr.inr.inr.inr.inr.inr.inr.inr => omega
  all_goals rfl
theorem upto_num (r : Rec) {t : Nat} (h1 : 1 ≤ t) (h9 : t ≤ 9) : (r.upto t).num t = r.num t := by
  rcases tag_cases h1 (by omega) with rfl | rfl | rfl | rfl | rfl | rfl | rfl | rfl | rfl | rfl | rfl
  case inr.inr.inr.inr.inr.inr.inr.inr.inr.inl => omega
  case inr.inr.inr.inr.inr.inr.inr.inr.inr.inr => omega
  all_goals rfl

/-- The bytes of n tags from t on. -/
def Rec.encFrom (r : Rec) : Nat → Nat → List UInt8
  | 0, _ => []
  | n + 1, t => r.tagB t ++ r.encFrom n (t + 1)
theorem enc_from (r : Rec) : ∀ n t, r.encTo (t + n) = r.encTo t ++ r.encFrom n (t + 1)
  | 0, t => by simp [Rec.encFrom]
  | n + 1, t => by
    rw [show t + (n + 1) = (t + 1) + n by omega, enc_from r n (t + 1)]
    simp [Rec.encTo, Rec.encFrom]
theorem enc_all (r : Rec) : r.enc = r.encFrom 11 1 := by
  have := enc_from r 11 0
  simpa [Rec.encTo, Rec.enc] using this
theorem from_skip (r : Rec) : ∀ k n t, (∀ x, t ≤ x → x < t + k → r.zeroAt x = true) → r.encFrom (k + n) t = r.encFrom n (t + k)
  | 0, n, t, _ => by simp
  | k + 1, n, t, h => by
    have e : r.tagB t = [] := by unfold Rec.tagB; rw [h t (by omega) (by omega)]; rfl
    rw [show k + 1 + n = (k + n) + 1 by omega]
    simp only [Rec.encFrom]
    rw [e, List.nil_append, from_skip r k n (t + 1) (fun x a b => h x (by omega) (by omega))]
    congr 1
    omega

/-- The numbers of a record are such as are read. -/
structure Rec.Wide (r : Rec) : Prop where
  num : ∀ t, 1 ≤ t → t ≤ 9 → t ≠ 7 → 0 ≤ r.num t ∧ r.num t ≤ 9223372036854775807
  code : -9223372036854775808 ≤ r.Code ∧ r.Code ≤ 9223372036854775807
  name : r.Name.size ≤ 192
  data : r.Data.length ≤ 16384
theorem val_read (r : Rec) (hw : r.Wide) {t : Nat} (h1 : 1 ≤ t) (h11 : t ≤ 11) (rest : List UInt8) : valR (r.upto (t - 1)) t (r.valB t ++ rest) = (r.upto t, (r.valB t).length, 0) := by
  unfold valR Rec.valB
  by_cases h7 : t = 7
  · subst h7
    obtain ⟨z1, z2⟩ := zig_range r.Code
    rw [if_pos rfl, if_pos rfl]
    unfold intL
    rw [readL_of (by omega)]
    simp only
    rw [if_pos trivial, zag_zig hw.code]
    rfl
  by_cases h10 : t = 10
  · subst h10
    have hn := hw.name
    have e : r.Name.data.toList.length = r.Name.size := rfl
    rw [if_neg h7, if_pos rfl, if_neg h7, if_pos rfl, readB_of (by omega) (by omega)]
    rfl
  by_cases h11' : t = 11
  · subst h11'
    rw [if_neg h7, if_neg h10, if_pos rfl, if_neg h7, if_neg h10, if_pos rfl, readB_of hw.data (by omega)]
    rfl
  · obtain ⟨n0, n1⟩ := hw.num t h1 (by omega) h7
    have e : IntKind.u64.wrap (r.num t) = r.num t := by rw [IntKind.wrap_u64]; omega
    rw [if_neg h7, if_neg h10, if_neg h11', if_neg h7, if_neg h10, if_neg h11', e, readL_of (by omega)]
    simp only
    rw [if_neg (by simp), if_neg (by omega), Int.toNat_of_nonneg n0, put_self r h1 (by omega)]
theorem field_read (r : Rec) (hw : r.Wide) {t last : Nat} (h1 : 1 ≤ t) (h11 : t ≤ 11) (hl : last < t) (hz : r.zeroAt t = false) (rest : List UInt8) :
    fieldR (r.upto (t - 1)) last (r.tagB t ++ rest) = (r.upto t, t, (r.tagB t).length, 0) := by
  have e : r.tagB t = uintL t ++ r.valB t := by unfold Rec.tagB; rw [hz]; rfl
  unfold fieldR
  rw [e, List.append_assoc, readL_of (by omega)]
  simp only
  rw [if_neg (by simp), if_neg (by omega), List.drop_left, val_read r hw h1 h11 rest]
  simp only
  rw [if_neg (by simp), upto_zeroAt r h1 h11 (Nat.le_refl t), hz, List.length_append]
  rfl
/-- What is written is read again. -/
theorem dec_enc (r : Rec) (hw : r.Wide) : ∀ n t, n + t = 12 → 1 ≤ t → ∀ f last, last < t → 12 ≤ f + last → decN f (r.upto (t - 1)) last (r.encFrom n t) = (r, 0) := by
  intro n
  induction n with
  | zero =>
    intro t ht h1 f last hl hf
    obtain rfl : t = 12 := by omega
    obtain ⟨k, rfl⟩ : ∃ k, f = k + 1 := ⟨f - 1, by omega⟩
    simp [Rec.encFrom, decN, upto_11]
  | succ n ih =>
    intro t ht h1 f last hl hf
    obtain ⟨k, rfl⟩ : ∃ k, f = k + 1 := ⟨f - 1, by omega⟩
    cases hz : r.zeroAt t with
    | true =>
      have e : r.tagB t = [] := by unfold Rec.tagB; rw [hz]; rfl
      have := ih (t + 1) (by omega) (by omega) (k + 1) last (by omega) hf
      rw [Nat.add_sub_cancel, upto_skip r h1 (by omega) hz] at this
      simp only [Rec.encFrom]
      rw [e, List.nil_append]
      exact this
    | false =>
      have := ih (t + 1) (by omega) (by omega) k t (by omega) (by omega)
      rw [Nat.add_sub_cancel] at this
      have hne : r.tagB t ++ r.encFrom n (t + 1) ≠ [] := by
        intro h
        have e : r.tagB t = uintL t ++ r.valB t := by unfold Rec.tagB; rw [hz]; rfl
        have hl := uintL_len t
        have := congrArg List.length h
        rw [e] at this
        simp only [List.length_append, List.length_nil] at this
        omega
      show decN (k + 1) _ last (r.tagB t ++ r.encFrom n (t + 1)) = _
      simp only [decN]
      rw [if_neg hne, field_read r hw h1 (by omega) hl hz]
      simp only
      rw [if_neg (by simp), List.drop_left]
      exact this

/-! ### The other way round -/
theorem val_back {r : Rec} {t last : Nat} {s : List UInt8} (h1 : 1 ≤ t) (h11 : t ≤ 11) (hl : last < t) (hr : r.upto last = r) (h : (valR r t s).2.2 = 0) :
    (valR r t s).1.upto t = (valR r t s).1 ∧ (valR r t s).1.upto (t - 1) = r ∧ s = (valR r t s).1.valB t ++ s.drop (valR r t s).2.1 ∧ (valR r t s).2.1 = ((valR r t s).1.valB t).length ∧ (valR r t s).1.V = r.V := by
  have hx : valR r t s = _ := rfl
  conv at hx => rhs; unfold valR
  by_cases h7 : t = 7
  · subst h7
    rw [if_pos rfl] at hx
    rw [hx] at h
    simp only at h
    rw [h, if_pos rfl] at hx
    rw [hx]
    simp only
    obtain ⟨e1, e2⟩ := readL_0 h
    have hlt := readL_lt s 0 0 (by omega) (by simp)
    have ev : (r.put 7 (zag (readL 0 0 s).1)).valB 7 = uintL (readL 0 0 s).1 := by
      unfold Rec.valB intL
      rw [if_pos rfl]
      show uintL (zig (zag _)).toNat = _
      rw [zig_zag hlt]
    rw [ev]
    refine ⟨?_, ?_, e1, e2, by first | rfl | trivial⟩
    · rw [put_upto r _ h1 (by omega), upto_more hr (by omega)]
    · rw [put_below r _ h1 (by omega) (by omega), upto_more hr (by omega)]
  rw [if_neg h7] at hx
  by_cases h10 : t = 10
  · subst h10
    rw [if_pos rfl] at hx
    rw [hx] at h ⊢
    simp only at h ⊢
    obtain ⟨e1, e2, _⟩ := readB_0 h
    have ev : ({ r with Name := ⟨(readB 192 s).1.toArray⟩ } : Rec).valB 10 = bytesL (readB 192 s).1 := by
      unfold Rec.valB
      rw [if_neg (by omega), if_pos rfl]
    rw [ev]
    refine ⟨?_, ?_, e1, e2, by first | rfl | trivial⟩
    · have := upto_more hr (show last ≤ 10 by omega)
      have e : r.Data = [] := by rw [← this]; rfl
      simp [Rec.upto, e]
    · conv => rhs; rw [← upto_more hr (show last ≤ 9 by omega)]
      rfl
  rw [if_neg h10] at hx
  by_cases h11' : t = 11
  · subst h11'
    rw [if_pos rfl] at hx
    rw [hx] at h ⊢
    simp only at h ⊢
    obtain ⟨e1, e2, _⟩ := readB_0 h
    have ev : ({ r with Data := (readB 16384 s).1 } : Rec).valB 11 = bytesL (readB 16384 s).1 := by
      unfold Rec.valB
      rw [if_neg (by omega), if_neg (by omega), if_pos rfl]
    rw [ev]
    refine ⟨rfl, ?_, e1, e2, by first | rfl | trivial⟩
    · conv => rhs; rw [← upto_more hr (show last ≤ 10 by omega)]
      rfl
  rw [if_neg h11'] at hx
  by_cases h0 : (readL 0 0 s).2.2 = 0
  · rw [if_neg (by simp [h0])] at hx
    by_cases hm : 9223372036854775807 < (readL 0 0 s).1
    · rw [if_pos hm] at hx
      rw [hx] at h
      simp at h
    · rw [if_neg hm] at hx
      rw [hx]
      simp only
      obtain ⟨e1, e2⟩ := readL_0 h0
      have ev : (r.put t (readL 0 0 s).1).valB t = uintL (readL 0 0 s).1 := by
        unfold Rec.valB
        rw [if_neg h7, if_neg h10, if_neg h11', put_num r _ h1 (by omega)]
        have e : (IntKind.u64.wrap ((readL 0 0 s).1 : Int)).toNat = (readL 0 0 s).1 := by rw [IntKind.wrap_u64]; omega
        rw [e]
      rw [ev]
      refine ⟨?_, ?_, e1, e2, ?_⟩
      · rw [put_upto r _ h1 (by omega), upto_more hr (by omega)]
      · rw [put_below r _ h1 (by omega) (by omega), upto_more hr (by omega)]
      · unfold Rec.put
        split <;> rfl
  · rw [if_pos h0] at hx
    rw [hx] at h
    exact absurd h h0
theorem upto_tagB (r : Rec) {t : Nat} (h1 : 1 ≤ t) (h11 : t ≤ 11) : (r.upto t).tagB t = r.tagB t := by
  unfold Rec.tagB
  rw [upto_zeroAt r h1 h11 (Nat.le_refl t)]
  have e : (r.upto t).valB t = r.valB t := by
    rcases tag_cases h1 h11 with rfl | rfl | rfl | rfl | rfl | rfl | rfl | rfl | rfl | rfl | rfl
    all_goals rfl
  rw [e]
theorem field_back {r : Rec} {last : Nat} {s : List UInt8} (hr : r.upto last = r) (h : (fieldR r last s).2.2.2 = 0) :
    last < (fieldR r last s).2.1 ∧ (fieldR r last s).2.1 ≤ 11 ∧ (fieldR r last s).1.upto (fieldR r last s).2.1 = (fieldR r last s).1 ∧ (fieldR r last s).1.upto ((fieldR r last s).2.1 - 1) = r ∧
      s = (fieldR r last s).1.tagB (fieldR r last s).2.1 ++ s.drop (fieldR r last s).2.2.1 ∧ (fieldR r last s).1.V = r.V := by
  have hx : fieldR r last s = _ := rfl
  conv at hx => rhs; unfold fieldR
  by_cases h0 : (readL 0 0 s).2.2 = 0
  · rw [if_neg (by simp [h0])] at hx
    by_cases hb : (readL 0 0 s).1 = 0 ∨ 11 < (readL 0 0 s).1 ∨ (readL 0 0 s).1 ≤ last
    · rw [if_pos hb] at hx
      rw [hx] at h
      simp at h
    rw [if_neg hb] at hx
    by_cases hv : (valR r (readL 0 0 s).1 (s.drop (readL 0 0 s).2.1)).2.2 = 0
    · rw [if_neg (by simp [hv])] at hx
      cases hz : (valR r (readL 0 0 s).1 (s.drop (readL 0 0 s).2.1)).1.zeroAt (readL 0 0 s).1 with
      | true =>
        rw [hz, if_pos rfl] at hx
        rw [hx] at h
        simp at h
      | false =>
        rw [hz, if_neg (by simp)] at hx
        obtain ⟨e1, e2⟩ := readL_0 h0
        obtain ⟨v1, v2, v3, v4, v5⟩ := val_back (t := (readL 0 0 s).1) (by omega) (by omega) (by omega) hr hv
        rw [hx]
        simp only
        refine ⟨by omega, by omega, v1, v2, ?_, v5⟩
        have e : (valR r (readL 0 0 s).1 (s.drop (readL 0 0 s).2.1)).1.tagB (readL 0 0 s).1 = uintL (readL 0 0 s).1 ++ (valR r (readL 0 0 s).1 (s.drop (readL 0 0 s).2.1)).1.valB (readL 0 0 s).1 := by
          unfold Rec.tagB
          rw [hz]
          rfl
        rw [e, List.append_assoc, ← List.drop_drop, ← v3]
        exact e1
    · rw [if_pos hv] at hx
      rw [hx] at h
      exact absurd h hv
  · rw [if_pos h0] at hx
    rw [hx] at h
    exact absurd h h0
/-- What is read was written so. -/
theorem dec_back : ∀ n (r : Rec) (last : Nat) (s : List UInt8), (decN n r last s).2 = 0 → 12 ≤ n + last → last ≤ 11 → r.upto last = r →
    (decN n r last s).1.upto last = r ∧ s = (decN n r last s).1.encFrom (11 - last) (last + 1) ∧ (decN n r last s).1.V = r.V := by
  intro n
  induction n with
  | zero => intro r last s _ h1 h2; omega
  | succ n ih =>
    intro r last s h hn hl hr
    by_cases hs : s = []
    · subst hs
      have e : decN (n + 1) r last [] = (r, 0) := by simp [decN]
      rw [e]
      refine ⟨hr, ?_, rfl⟩
      have := from_skip r (11 - last) 0 (last + 1) fun x a b => by rw [← hr]; exact upto_zero r (by omega) (by omega) (by omega)
      rw [Nat.add_zero] at this
      rw [this]
      rfl
    · by_cases he : (fieldR r last s).2.2.2 = 0
      · have e : decN (n + 1) r last s = decN n (fieldR r last s).1 (fieldR r last s).2.1 (s.drop (fieldR r last s).2.2.1) := by
          conv => lhs; unfold decN
          rw [if_neg hs, if_neg (by simp [he])]
        obtain ⟨f1, f2, f3, f4, f5, f6⟩ := field_back hr he
        rw [e] at h ⊢
        generalize fieldR r last s = x at h he f1 f2 f3 f4 f5 f6 ⊢
        obtain ⟨r1, g, k, e1⟩ := x
        simp only at h he f1 f2 f3 f4 f5 f6 ⊢
        obtain ⟨i1, i2, i3⟩ := ih r1 g (s.drop k) h (by omega) f2 f3
        generalize (decN n r1 g (s.drop k)).1 = r' at i1 i2 i3 ⊢
        refine ⟨?_, ?_, by rw [i3, f6]⟩
        · rw [← upto_upto r' (show last ≤ g by omega), i1, ← upto_upto r1 (show last ≤ g - 1 by omega), f4, hr]
        · have e2 : r'.tagB g = r1.tagB g := by rw [← upto_tagB r' (by omega) f2, i1]
          have e3 : r'.encFrom (11 - last) (last + 1) = r'.encFrom (12 - g) g := by
            have := from_skip r' (g - last - 1) (12 - g) (last + 1) fun x a b => by
              rw [← upto_zeroAt r' (t := x) (n := g) (by omega) (by omega) (by omega), i1, ← upto_zeroAt r1 (t := x) (n := g - 1) (by omega) (by omega) (by omega), f4, ← hr]
              exact upto_zero r (by omega) (by omega) (by omega)
            rw [show g - last - 1 + (12 - g) = 11 - last by omega, show last + 1 + (g - last - 1) = g by omega] at this
            exact this
          rw [e3, show 12 - g = (11 - g) + 1 by omega]
          simp only [Rec.encFrom]
          rw [e2, ← i2]
          exact f5
      · have e : decN (n + 1) r last s = (r, (fieldR r last s).2.2.2) := by
          conv => lhs; unfold decN
          rw [if_neg hs, if_pos he]
        rw [e] at h
        exact absurd h he
end Go.Proofs.YtjhiohjpkdjkoaaDoor
