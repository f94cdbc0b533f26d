/-
  The plain Decode and its laws; record.value and record.Decode.
-/
import Derived.Test.YtikodgaomhmbmaaDoorM5r
import Derived.Test.YtikodgaomhmbmaaDoorMWbr
import Derived.Test.YtikodgaomhmbmaaDoorCL
set_option linter.unusedVariables false
set_option linter.unusedSimpArgs false
namespace Go.Proofs.YtikodgaomhmbmaaDoor
open Go.RowKit

/-- The record with the number of a tag turned. -/
def Rec.put (r : Rec) (t : Nat) (x : Int) : Rec :=
  match t with
  | 1 => { r with Kind := x }
  | 2 => { r with Saga := x }
  | 3 => { r with Step := x }
  | 4 => { r with Try := x }
  | 5 => { r with At := x }
  | 6 => { r with Last := x }
  | 7 => { r with Code := x }
  | 8 => { r with Count := x }
  | 9 => { r with Pivot := x }
  | _ => r
/-- What record.value reads: the record, how many bytes, the error. -/
def valR (r : Rec) (t : Nat) (s : List UInt8) : Rec × Nat × Int :=
  if t = 7 then (r.put 7 (if (readL 0 0 s).2.2 = 0 then zag (readL 0 0 s).1 else 0), (readL 0 0 s).2.1, (readL 0 0 s).2.2)
  else if t = 10 then ({ r with Name := ⟨(readB 192 s).1.toArray⟩ }, (readB 192 s).2.1, (readB 192 s).2.2)
  else if t = 11 then ({ r with Data := (readB 16384 s).1 }, (readB 16384 s).2.1, (readB 16384 s).2.2)
  else if (readL 0 0 s).2.2 ≠ 0 then (r, 0, (readL 0 0 s).2.2)
  else if 9223372036854775807 < (readL 0 0 s).1 then (r, 0, 34)
  else (r.put t (readL 0 0 s).1, (readL 0 0 s).2.1, 0)
/-- One field: the record, its tag, how many bytes, the error. -/
def fieldR (r : Rec) (last : Nat) (s : List UInt8) : Rec × Nat × Nat × Int :=
  if (readL 0 0 s).2.2 ≠ 0 then (r, 0, 0, (readL 0 0 s).2.2)
  else if (readL 0 0 s).1 = 0 ∨ 11 < (readL 0 0 s).1 ∨ (readL 0 0 s).1 ≤ last then (r, 0, 0, 37)
  else if (valR r (readL 0 0 s).1 (s.drop (readL 0 0 s).2.1)).2.2 ≠ 0 then (r, 0, 0, (valR r (readL 0 0 s).1 (s.drop (readL 0 0 s).2.1)).2.2)
  else if (valR r (readL 0 0 s).1 (s.drop (readL 0 0 s).2.1)).1.zeroAt (readL 0 0 s).1 then (r, 0, 0, 38)
  else ((valR r (readL 0 0 s).1 (s.drop (readL 0 0 s).2.1)).1, (readL 0 0 s).1, (readL 0 0 s).2.1 + (valR r (readL 0 0 s).1 (s.drop (readL 0 0 s).2.1)).2.1, 0)
/-- All fields. -/
def decN : Nat → Rec → Nat → List UInt8 → Rec × Int
  | 0, r, _, _ => (r, 0)
  | n + 1, r, last, s => if s = [] then (r, 0) else if (fieldR r last s).2.2.2 ≠ 0 then (r, (fieldR r last s).2.2.2)
    else decN n (fieldR r last s).1 (fieldR r last s).2.1 (s.drop (fieldR r last s).2.2.1)
def startR (v : Int) : Rec := { Rec.zero with V := v }
def decE (v : Int) (s : List UInt8) : Int :=
  if v < 1 ∨ 3 < v then 3 else if (decN 12 (startR v) 0 s).2 ≠ 0 then (decN 12 (startR v) 0 s).2 else (decN 12 (startR v) 0 s).1.chk
noncomputable def decR (v : Int) (s : List UInt8) : Rec := if decE v s = 0 then (decN 12 (startR v) 0 s).1 else Rec.zero

/-! ### The fields up to a tag -/
def Rec.upto (r : Rec) (n : Nat) : Rec :=
  { V := r.V, Kind := if 1 ≤ n then r.Kind else 0, Saga := if 2 ≤ n then r.Saga else 0, Step := if 3 ≤ n then r.Step else 0, Try := if 4 ≤ n then r.Try else 0, At := if 5 ≤ n then r.At else 0, Last := if 6 ≤ n then r.Last else 0,
    Code := if 7 ≤ n then r.Code else 0, Count := if 8 ≤ n then r.Count else 0, Pivot := if 9 ≤ n then r.Pivot else 0, Name := if 10 ≤ n then r.Name else ⟨#[]⟩, Data := if 11 ≤ n then r.Data else [] }
theorem ite_ite {α : Type} {p q : Prop} [Decidable p] [Decidable q] (h : p → q) (a b : α) : (if p then (if q then a else b) else b) = if p then a else b := by
  by_cases hp : p
  · rw [if_pos hp, if_pos hp, if_pos (h hp)]
  · rw [if_neg hp, if_neg hp]
theorem ite_ite2 {α : Type} {p q : Prop} [Decidable p] [Decidable q] (h : q → p) (a b : α) : (if p then (if q then a else b) else b) = if q then a else b := by
  by_cases hq : q
  · rw [if_pos hq, if_pos (h hq)]
  · rw [if_neg hq]
    split <;> rfl
theorem upto_upto (r : Rec) {m n : Nat} (h : m ≤ n) : (r.upto n).upto m = r.upto m := by
  unfold Rec.upto
  simp only
  congr 1 <;> exact ite_ite (by omega) _ _
theorem upto_upto2 (r : Rec) {m n : Nat} (h : m ≤ n) : (r.upto m).upto n = r.upto m := by
  unfold Rec.upto
  simp only
  congr 1 <;> exact ite_ite2 (by omega) _ _
theorem upto_more {r : Rec} {m n : Nat} (h : r.upto m = r) (hmn : m ≤ n) : r.upto n = r := by
  conv => lhs; rw [← h]
  rw [upto_upto2 r hmn, h]
theorem upto_11 (r : Rec) : r.upto 11 = r := rfl
theorem upto_0 (r : Rec) : r.upto 0 = startR r.V := rfl
theorem tag_cases {t : Nat} (h1 : 1 ≤ t) (h11 : t ≤ 11) : t = 1 ∨ t = 2 ∨ t = 3 ∨ t = 4 ∨ t = 5 ∨ t = 6 ∨ t = 7 ∨ t = 8 ∨ t = 9 ∨ t = 10 ∨ t = 11 := by omega
theorem upto_zeroAt (r : Rec) {t n : Nat} (h1 : 1 ≤ t) (h11 : t ≤ 11) (h : t ≤ n) : (r.upto n).zeroAt t = r.zeroAt t := by
  rcases tag_cases h1 h11 with rfl | rfl | rfl | rfl | rfl | rfl | rfl | rfl | rfl | rfl | rfl
  all_goals simp [Rec.upto, Rec.zeroAt, Rec.num, h]
theorem upto_zero (r : Rec) {t n : Nat} (h1 : 1 ≤ t) (h11 : t ≤ 11) (h : n < t) : (r.upto n).zeroAt t = true := by
  have hn : ¬ t ≤ n := by omega
  rcases tag_cases h1 h11 with rfl | rfl | rfl | rfl | rfl | rfl | rfl | rfl | rfl | rfl | rfl
  all_goals first
    | (simp [Rec.upto, Rec.zeroAt, Rec.num, hn]; done)
    | (simp only [Rec.upto, Rec.zeroAt, if_neg hn]; decide)
/-- A field that is zero adds nothing. -/
theorem upto_skip (r : Rec) {t : Nat} (h1 : 1 ≤ t) (h11 : t ≤ 11) (h : r.zeroAt t = true) : r.upto t = r.upto (t - 1) := by
  rcases tag_cases h1 h11 with rfl | rfl | rfl | rfl | rfl | rfl | rfl | rfl | rfl | rfl | rfl
  case inr.inr.inr.inr.inr.inr.inr.inr.inr.inl => have e := (z10 r).1 h; simp [Rec.upto, e]
  case inr.inr.inr.inr.inr.inr.inr.inr.inr.inr => have e := (z11 r).1 h; simp [Rec.upto, e]
  all_goals
    have e : _ = (0 : Int) := of_decide_eq_true h
    simp [Rec.num] at e
    simp [Rec.upto, e]
theorem put_upto (r : Rec) {t : Nat} (x : Int) (h1 : 1 ≤ t) (h9 : t ≤ 9) : (r.put t x).upto t = (r.upto t).put t x := by
  rcases tag_cases h1 (by omega) with rfl | rfl | rfl | rfl | rfl | rfl | rfl | rfl | rfl | rfl | rfl
  case inr.inr.inr.inr.inr.inr.inr.inr.inr.inl => omega
  case inr.inr.inr.inr.inr.inr.inr.inr.inr.inr => omega
  all_goals rfl
theorem put_below (r : Rec) {t n : Nat} (x : Int) (h1 : 1 ≤ t) (h9 : t ≤ 9) (h : n < t) : (r.put t x).upto n = r.upto n := by
  have hn : ¬ t ≤ n := by omega
  rcases tag_cases h1 (by omega) with rfl | rfl | rfl | rfl | rfl | rfl | rfl | rfl | rfl | rfl | rfl
  case inr.inr.inr.inr.inr.inr.inr.inr.inr.inl => omega
  case inr.inr.inr.inr.inr.inr.inr.inr.inr.inr => omega
  all_goals simp only [Rec.put, Rec.upto, if_neg hn]
theorem put_num (r : Rec) {t : Nat} (x : Int) (h1 : 1 ≤ t) (h9 : t ≤ 9) : (r.put t x).num t = x := by
  rcases tag_cases h1 (by omega) with rfl | rfl | rfl | rfl | rfl | rfl | rfl | rfl | rfl | rfl | rfl
  case inr.inr.inr.inr.inr.inr.inr.inr.inr.inl => omega
  case inr.inr.inr.inr.inr.inr.inr.inr.inr.inr => omega
  all_goals rfl
theorem put_self (r : Rec) {t : Nat} (h1 : 1 ≤ t) (h9 : t ≤ 9) : (r.upto (t - 1)).put t (r.num t) = r.upto t := by
  rcases tag_cases h1 (by omega) with rfl | rfl | rfl | rfl | rfl | rfl | rfl | rfl | rfl | rfl | rfl
  case inr.inr.inr.inr.inr.inr.inr.inr.inr.inl => omega
  case inr.inr.inr.inr.inr.inr.inr.inr.inr.inr => omega
  all_goals rfl
theorem upto_num (r : Rec) {t : Nat} (h1 : 1 ≤ t) (h9 : t ≤ 9) : (r.upto t).num t = r.num t := by
  rcases tag_cases h1 (by omega) with rfl | rfl | rfl | rfl | rfl | rfl | rfl | rfl | rfl | rfl | rfl
  case inr.inr.inr.inr.inr.inr.inr.inr.inr.inl => omega
  case inr.inr.inr.inr.inr.inr.inr.inr.inr.inr => omega
  all_goals rfl

/-- The bytes of n tags from t on. -/
def Rec.encFrom (r : Rec) : Nat → Nat → List UInt8
  | 0, _ => []
  | n + 1, t => r.tagB t ++ r.encFrom n (t + 1)
theorem enc_from (r : Rec) : ∀ n t, r.encTo (t + n) = r.encTo t ++ r.encFrom n (t + 1)
  | 0, t => by simp [Rec.encFrom]
  | n + 1, t => by
    rw [show t + (n + 1) = (t + 1) + n by omega, enc_from r n (t + 1)]
    simp [Rec.encTo, Rec.encFrom]
theorem enc_all (r : Rec) : r.enc = r.encFrom 11 1 := by
  have := enc_from r 11 0
  simpa [Rec.encTo, Rec.enc] using this
theorem from_skip (r : Rec) : ∀ k n t, (∀ x, t ≤ x → x < t + k → r.zeroAt x = true) → r.encFrom (k + n) t = r.encFrom n (t + k)
  | 0, n, t, _ => by simp
  | k + 1, n, t, h => by
    have e : r.tagB t = [] := by unfold Rec.tagB; rw [h t (by omega) (by omega)]; rfl
    rw [show k + 1 + n = (k + n) + 1 by omega]
    simp only [Rec.encFrom]
    rw [e, List.nil_append, from_skip r k n (t + 1) (fun x a b => h x (by omega) (by omega))]
    congr 1
    omega

/-- The numbers of a record are such as are read. -/
structure Rec.Wide (r : Rec) : Prop where
  num : ∀ t, 1 ≤ t → t ≤ 9 → t ≠ 7 → 0 ≤ r.num t ∧ r.num t ≤ 9223372036854775807
  code : -9223372036854775808 ≤ r.Code ∧ r.Code ≤ 9223372036854775807
  name : r.Name.size ≤ 192
  data : r.Data.length ≤ 16384
theorem val_read (r : Rec) (hw : r.Wide) {t : Nat} (h1 : 1 ≤ t) (h11 : t ≤ 11) (rest : List UInt8) : valR (r.upto (t - 1)) t (r.valB t ++ rest) = (r.upto t, (r.valB t).length, 0) := by
  unfold valR Rec.valB
  by_cases h7 : t = 7
  · subst h7
    obtain ⟨z1, z2⟩ := zig_range r.Code
    rw [if_pos rfl, if_pos rfl]
    unfold intL
    rw [readL_of (by omega)]
    simp only
    rw [if_pos trivial, zag_zig hw.code]
    rfl
  by_cases h10 : t = 10
  · subst h10
    have hn := hw.name
    have e : r.Name.data.toList.length = r.Name.size := rfl
    rw [if_neg h7, if_pos rfl, if_neg h7, if_pos rfl, readB_of (by omega) (by omega)]
    rfl
  by_cases h11' : t = 11
  · subst h11'
    rw [if_neg h7, if_neg h10, if_pos rfl, if_neg h7, if_neg h10, if_pos rfl, readB_of hw.data (by omega)]
    rfl
  · obtain ⟨n0, n1⟩ := hw.num t h1 (by omega) h7
    have e : IntKind.u64.wrap (r.num t) = r.num t := by rw [IntKind.wrap_u64]; omega
    rw [if_neg h7, if_neg h10, if_neg h11', if_neg h7, if_neg h10, if_neg h11', e, readL_of (by omega)]
    simp only
    rw [if_neg (by simp), if_neg (by omega), Int.toNat_of_nonneg n0, put_self r h1 (by omega)]
theorem field_read (r : Rec) (hw : r.Wide) {t last : Nat} (h1 : 1 ≤ t) (h11 : t ≤ 11) (hl : last < t) (hz : r.zeroAt t = false) (rest : List UInt8) :
    fieldR (r.upto (t - 1)) last (r.tagB t ++ rest) = (r.upto t, t, (r.tagB t).length, 0) := by
  have e : r.tagB t = uintL t ++ r.valB t := by unfold Rec.tagB; rw [hz]; rfl
  unfold fieldR
  rw [e, List.append_assoc, readL_of (by omega)]
  simp only
  rw [if_neg (by simp), if_neg (by omega), List.drop_left, val_read r hw h1 h11 rest]
  simp only
  rw [if_neg (by simp), upto_zeroAt r h1 h11 (Nat.le_refl t), hz, List.length_append]
  rfl
/-- What is written is read again. -/
theorem dec_enc (r : Rec) (hw : r.Wide) : ∀ n t, n + t = 12 → 1 ≤ t → ∀ f last, last < t → 12 ≤ f + last → decN f (r.upto (t - 1)) last (r.encFrom n t) = (r, 0) := by
  intro n
  induction n with
  | zero =>
    intro t ht h1 f last hl hf
    obtain rfl : t = 12 := by omega
    obtain ⟨k, rfl⟩ : ∃ k, f = k + 1 := ⟨f - 1, by omega⟩
    simp [Rec.encFrom, decN, upto_11]
  | succ n ih =>
    intro t ht h1 f last hl hf
    obtain ⟨k, rfl⟩ : ∃ k, f = k + 1 := ⟨f - 1, by omega⟩
    cases hz : r.zeroAt t with
    | true =>
      have e : r.tagB t = [] := by unfold Rec.tagB; rw [hz]; rfl
      have := ih (t + 1) (by omega) (by omega) (k + 1) last (by omega) hf
      rw [Nat.add_sub_cancel, upto_skip r h1 (by omega) hz] at this
      simp only [Rec.encFrom]
      rw [e, List.nil_append]
      exact this
    | false =>
      have := ih (t + 1) (by omega) (by omega) k t (by omega) (by omega)
      rw [Nat.add_sub_cancel] at this
      have hne : r.tagB t ++ r.encFrom n (t + 1) ≠ [] := by
        intro h
        have e : r.tagB t = uintL t ++ r.valB t := by unfold Rec.tagB; rw [hz]; rfl
        have hl := uintL_len t
        have := congrArg List.length h
        rw [e] at this
        simp only [List.length_append, List.length_nil] at this
        omega
      show decN (k + 1) _ last (r.tagB t ++ r.encFrom n (t + 1)) = _
      simp only [decN]
      rw [if_neg hne, field_read r hw h1 (by omega) hl hz]
      simp only
      rw [if_neg (by simp), List.drop_left]
      exact this

/-! ### The other way round -/
theorem val_back {r : Rec} {t last : Nat} {s : List UInt8} (h1 : 1 ≤ t) (h11 : t ≤ 11) (hl : last < t) (hr : r.upto last = r) (h : (valR r t s).2.2 = 0) :
    (valR r t s).1.upto t = (valR r t s).1 ∧ (valR r t s).1.upto (t - 1) = r ∧ s = (valR r t s).1.valB t ++ s.drop (valR r t s).2.1 ∧ (valR r t s).2.1 = ((valR r t s).1.valB t).length ∧ (valR r t s).1.V = r.V := by
  have hx : valR r t s = _ := rfl
  conv at hx => rhs; unfold valR
  by_cases h7 : t = 7
  · subst h7
    rw [if_pos rfl] at hx
    rw [hx] at h
    simp only at h
    rw [h, if_pos rfl] at hx
    rw [hx]
    simp only
    obtain ⟨e1, e2⟩ := readL_0 h
    have hlt := readL_lt s 0 0 (by omega) (by simp)
    have ev : (r.put 7 (zag (readL 0 0 s).1)).valB 7 = uintL (readL 0 0 s).1 := by
      unfold Rec.valB intL
      rw [if_pos rfl]
      show uintL (zig (zag _)).toNat = _
      rw [zig_zag hlt]
    rw [ev]
    refine ⟨?_, ?_, e1, e2, by first | rfl | trivial⟩
    · rw [put_upto r _ h1 (by omega), upto_more hr (by omega)]
    · rw [put_below r _ h1 (by omega) (by omega), upto_more hr (by omega)]
  rw [if_neg h7] at hx
  by_cases h10 : t = 10
  · subst h10
    rw [if_pos rfl] at hx
    rw [hx] at h ⊢
    simp only at h ⊢
    obtain ⟨e1, e2, _⟩ := readB_0 h
    have ev : ({ r with Name := ⟨(readB 192 s).1.toArray⟩ } : Rec).valB 10 = bytesL (readB 192 s).1 := by
      unfold Rec.valB
      rw [if_neg (by omega), if_pos rfl]
    rw [ev]
    refine ⟨?_, ?_, e1, e2, by first | rfl | trivial⟩
    · have := upto_more hr (show last ≤ 10 by omega)
      have e : r.Data = [] := by rw [← this]; rfl
      simp [Rec.upto, e]
    · conv => rhs; rw [← upto_more hr (show last ≤ 9 by omega)]
      rfl
  rw [if_neg h10] at hx
  by_cases h11' : t = 11
  · subst h11'
    rw [if_pos rfl] at hx
    rw [hx] at h ⊢
    simp only at h ⊢
    obtain ⟨e1, e2, _⟩ := readB_0 h
    have ev : ({ r with Data := (readB 16384 s).1 } : Rec).valB 11 = bytesL (readB 16384 s).1 := by
      unfold Rec.valB
      rw [if_neg (by omega), if_neg (by omega), if_pos rfl]
    rw [ev]
    refine ⟨rfl, ?_, e1, e2, by first | rfl | trivial⟩
    · conv => rhs; rw [← upto_more hr (show last ≤ 10 by omega)]
      rfl
  rw [if_neg h11'] at hx
  by_cases h0 : (readL 0 0 s).2.2 = 0
  · rw [if_neg (by simp [h0])] at hx
    by_cases hm : 9223372036854775807 < (readL 0 0 s).1
    · rw [if_pos hm] at hx
      rw [hx] at h
      simp at h
    · rw [if_neg hm] at hx
      rw [hx]
      simp only
      obtain ⟨e1, e2⟩ := readL_0 h0
      have ev : (r.put t (readL 0 0 s).1).valB t = uintL (readL 0 0 s).1 := by
        unfold Rec.valB
        rw [if_neg h7, if_neg h10, if_neg h11', put_num r _ h1 (by omega)]
        have e : (IntKind.u64.wrap ((readL 0 0 s).1 : Int)).toNat = (readL 0 0 s).1 := by rw [IntKind.wrap_u64]; omega
        rw [e]
      rw [ev]
      refine ⟨?_, ?_, e1, e2, ?_⟩
      · rw [put_upto r _ h1 (by omega), upto_more hr (by omega)]
      · rw [put_below r _ h1 (by omega) (by omega), upto_more hr (by omega)]
      · unfold Rec.put
        split <;> rfl
  · rw [if_pos h0] at hx
    rw [hx] at h
    exact absurd h h0
theorem upto_tagB (r : Rec) {t : Nat} (h1 : 1 ≤ t) (h11 : t ≤ 11) : (r.upto t).tagB t = r.tagB t := by
  unfold Rec.tagB
  rw [upto_zeroAt r h1 h11 (Nat.le_refl t)]
  have e : (r.upto t).valB t = r.valB t := by
    rcases tag_cases h1 h11 with rfl | rfl | rfl | rfl | rfl | rfl | rfl | rfl | rfl | rfl | rfl
    all_goals rfl
  rw [e]
theorem field_back {r : Rec} {last : Nat} {s : List UInt8} (hr : r.upto last = r) (h : (fieldR r last s).2.2.2 = 0) :
    last < (fieldR r last s).2.1 ∧ (fieldR r last s).2.1 ≤ 11 ∧ (fieldR r last s).1.upto (fieldR r last s).2.1 = (fieldR r last s).1 ∧ (fieldR r last s).1.upto ((fieldR r last s).2.1 - 1) = r ∧
      s = (fieldR r last s).1.tagB (fieldR r last s).2.1 ++ s.drop (fieldR r last s).2.2.1 ∧ (fieldR r last s).1.V = r.V := by
  have hx : fieldR r last s = _ := rfl
  conv at hx => rhs; unfold fieldR
  by_cases h0 : (readL 0 0 s).2.2 = 0
  · rw [if_neg (by simp [h0])] at hx
    by_cases hb : (readL 0 0 s).1 = 0 ∨ 11 < (readL 0 0 s).1 ∨ (readL 0 0 s).1 ≤ last
    · rw [if_pos hb] at hx
      rw [hx] at h
      simp at h
    rw [if_neg hb] at hx
    by_cases hv : (valR r (readL 0 0 s).1 (s.drop (readL 0 0 s).2.1)).2.2 = 0
    · rw [if_neg (by simp [hv])] at hx
      cases hz : (valR r (readL 0 0 s).1 (s.drop (readL 0 0 s).2.1)).1.zeroAt (readL 0 0 s).1 with
      | true =>
        rw [hz, if_pos rfl] at hx
        rw [hx] at h
        simp at h
      | false =>
        rw [hz, if_neg (by simp)] at hx
        obtain ⟨e1, e2⟩ := readL_0 h0
        obtain ⟨v1, v2, v3, v4, v5⟩ := val_back (t := (readL 0 0 s).1) (by omega) (by omega) (by omega) hr hv
        rw [hx]
        simp only
        refine ⟨by omega, by omega, v1, v2, ?_, v5⟩
        have e : (valR r (readL 0 0 s).1 (s.drop (readL 0 0 s).2.1)).1.tagB (readL 0 0 s).1 = uintL (readL 0 0 s).1 ++ (valR r (readL 0 0 s).1 (s.drop (readL 0 0 s).2.1)).1.valB (readL 0 0 s).1 := by
          unfold Rec.tagB
          rw [hz]
          rfl
        rw [e, List.append_assoc, ← List.drop_drop, ← v3]
        exact e1
    · rw [if_pos hv] at hx
      rw [hx] at h
      exact absurd h hv
  · rw [if_pos h0] at hx
    rw [hx] at h
    exact absurd h h0
/-- What is read was written so. -/
theorem dec_back : ∀ n (r : Rec) (last : Nat) (s : List UInt8), (decN n r last s).2 = 0 → 12 ≤ n + last → last ≤ 11 → r.upto last = r →
    (decN n r last s).1.upto last = r ∧ s = (decN n r last s).1.encFrom (11 - last) (last + 1) ∧ (decN n r last s).1.V = r.V := by
  intro n
  induction n with
  | zero => intro r last s _ h1 h2; omega
  | succ n ih =>
    intro r last s h hn hl hr
    by_cases hs : s = []
    · subst hs
      have e : decN (n + 1) r last [] = (r, 0) := by simp [decN]
      rw [e]
      refine ⟨hr, ?_, rfl⟩
      have := from_skip r (11 - last) 0 (last + 1) fun x a b => by rw [← hr]; exact upto_zero r (by omega) (by omega) (by omega)
      rw [Nat.add_zero] at this
      rw [this]
      rfl
    · by_cases he : (fieldR r last s).2.2.2 = 0
      · have e : decN (n + 1) r last s = decN n (fieldR r last s).1 (fieldR r last s).2.1 (s.drop (fieldR r last s).2.2.1) := by
          conv => lhs; unfold decN
          rw [if_neg hs, if_neg (by simp [he])]
        obtain ⟨f1, f2, f3, f4, f5, f6⟩ := field_back hr he
        rw [e] at h ⊢
        generalize fieldR r last s = x at h he f1 f2 f3 f4 f5 f6 ⊢
        obtain ⟨r1, g, k, e1⟩ := x
        simp only at h he f1 f2 f3 f4 f5 f6 ⊢
        obtain ⟨i1, i2, i3⟩ := ih r1 g (s.drop k) h (by omega) f2 f3
        generalize (decN n r1 g (s.drop k)).1 = r' at i1 i2 i3 ⊢
        refine ⟨?_, ?_, by rw [i3, f6]⟩
        · rw [← upto_upto r' (show last ≤ g by omega), i1, ← upto_upto r1 (show last ≤ g - 1 by omega), f4, hr]
        · have e2 : r'.tagB g = r1.tagB g := by rw [← upto_tagB r' (by omega) f2, i1]
          have e3 : r'.encFrom (11 - last) (last + 1) = r'.encFrom (12 - g) g := by
            have := from_skip r' (g - last - 1) (12 - g) (last + 1) fun x a b => by
              rw [← upto_zeroAt r' (t := x) (n := g) (by omega) (by omega) (by omega), i1, ← upto_zeroAt r1 (t := x) (n := g - 1) (by omega) (by omega) (by omega), f4, ← hr]
              exact upto_zero r (by omega) (by omega) (by omega)
            rw [show g - last - 1 + (12 - g) = 11 - last by omega, show last + 1 + (g - last - 1) = g by omega] at this
            exact this
          rw [e3, show 12 - g = (11 - g) + 1 by omega]
          simp only [Rec.encFrom]
          rw [e2, ← i2]
          exact f5
      · have e : decN (n + 1) r last s = (r, (fieldR r last s).2.2.2) := by
          conv => lhs; unfold decN
          rw [if_neg hs, if_pos he]
        rw [e] at h
        exact absurd h he
end Go.Proofs.YtikodgaomhmbmaaDoor
namespace Go.Proofs.YtikodgaomhmbmaaDoor
open Go.RowKit

theorem wf_range {x : Int} (h : (Lit.int .i64 x).wf = true) : -9223372036854775808 ≤ x ∧ x ≤ 9223372036854775807 := by
  simp only [Lit.wf, IntKind.min, IntKind.max, IntKind.signed, IntKind.bits, Bool.and_eq_true, decide_eq_true_eq, if_true] at h
  omega
theorem wide_of {r : Rec} (hi : r.Ints) (h : r.chk = 0) : r.Wide := by
  obtain ⟨v, k, hv, hk, h1, h2, hs, hval⟩ := (chk_valid r).1 h
  obtain ⟨s1, s2⟩ := valid_small h
  refine ⟨fun t a b hne => ?_, wf_range hi.code, s1, s2⟩
  rcases tag_cases a (by omega) with rfl | rfl | rfl | rfl | rfl | rfl | rfl | rfl | rfl | rfl | rfl
  case inr.inr.inr.inr.inr.inr.inl => omega
  case inr.inr.inr.inr.inr.inr.inr.inr.inr.inl => omega
  case inr.inr.inr.inr.inr.inr.inr.inr.inr.inr => omega
  · show 0 ≤ r.Kind ∧ r.Kind ≤ _
    omega
  · show 0 ≤ r.Saga ∧ r.Saga ≤ _
    have := wf_range hi.saga
    omega
  · show 0 ≤ r.Step ∧ r.Step ≤ _
    have := wf_range hi.step
    have e := hval 3 (by omega) (by omega)
    split at e
    · rw [b3] at e
      split at e <;> omega
    · rw [z3] at e
      omega
  · show 0 ≤ r.Try ∧ r.Try ≤ _
    have := wf_range hi.try_
    have e := hval 4 (by omega) (by omega)
    split at e
    · rw [b4] at e
      omega
    · rw [z4] at e
      omega
  · show 0 ≤ r.At ∧ r.At ≤ _
    have := wf_range hi.at_
    have e := hval 5 (by omega) (by omega)
    split at e
    · rw [b5] at e
      omega
    · rw [z5] at e
      omega
  · show 0 ≤ r.Last ∧ r.Last ≤ _
    have := wf_range hi.last
    have e := hval 6 (by omega) (by omega)
    split at e
    · rw [b6] at e
      omega
    · rw [z6] at e
      omega
  · show 0 ≤ r.Count ∧ r.Count ≤ _
    have := wf_range hi.count
    have e := hval 8 (by omega) (by omega)
    split at e
    · rw [b8] at e
      omega
    · rw [z8] at e
      omega
  · show 0 ≤ r.Pivot ∧ r.Pivot ≤ _
    have := wf_range hi.pivot
    have e := hval 9 (by omega) (by omega)
    split at e
    · rw [b9] at e
      omega
    · rw [z9] at e
      omega
/-- A valid record's bytes are read as the record. -/
theorem dec_of_enc {r : Rec} (hi : r.Ints) (h : r.chk = 0) : decE r.V r.enc = 0 ∧ decR r.V r.enc = r := by
  have hv := ((chk_ok r).1 h).1
  have e : decN 12 (startR r.V) 0 r.enc = (r, 0) := by
    have := dec_enc r (wide_of hi h) 11 1 (by omega) (by omega) 12 0 (by omega) (by omega)
    rw [← enc_all] at this
    exact this
  have e0 : decE r.V r.enc = 0 := by
    unfold decE
    rw [if_neg (by omega), e]
    simpa using h
  refine ⟨e0, ?_⟩
  unfold decR
  rw [if_pos e0, e]
/-- What is read is valid, of that version, and its bytes are those that were read. -/
theorem enc_of_dec {v : Int} {s : List UInt8} (h : decE v s = 0) : (decR v s).enc = s ∧ (decR v s).chk = 0 ∧ (decR v s).V = v ∧ 1 ≤ v ∧ v ≤ 3 := by
  have e : decR v s = (decN 12 (startR v) 0 s).1 := if_pos h
  unfold decE at h
  split at h
  · omega
  · rename_i hv
    split at h
    · rename_i h0
      exact absurd h h0
    · rename_i h0
      obtain ⟨_, d2, d3⟩ := dec_back 12 (startR v) 0 s (by simpa using h0) (by omega) (by omega) rfl
      rw [e]
      refine ⟨?_, h, by rw [d3]; rfl, by omega, by omega⟩
      rw [enc_all]
      exact d2.symm
/-- The version plays no part. -/
theorem val_V (r : Rec) (v : Int) (t : Nat) (s : List UInt8) : valR { r with V := v } t s = ({ (valR r t s).1 with V := v }, (valR r t s).2) := by
  have hp : ∀ x, ({ r with V := v } : Rec).put t x = { r.put t x with V := v } := fun x => by unfold Rec.put; split <;> rfl
  unfold valR
  by_cases h7 : t = 7
  · rw [if_pos h7, if_pos h7]
    rfl
  by_cases h10 : t = 10
  · rw [if_neg h7, if_pos h10, if_neg h7, if_pos h10]
  by_cases h11 : t = 11
  · rw [if_neg h7, if_neg h10, if_pos h11, if_neg h7, if_neg h10, if_pos h11]
  rw [if_neg h7, if_neg h10, if_neg h11, if_neg h7, if_neg h10, if_neg h11]
  by_cases h0 : (readL 0 0 s).2.2 = 0
  · have hn : ¬ (readL 0 0 s).2.2 ≠ 0 := fun h => h h0
    rw [if_neg hn, if_neg hn]
    by_cases hm : 9223372036854775807 < (readL 0 0 s).1
    · rw [if_pos hm, if_pos hm]
    · rw [if_neg hm, if_neg hm]
      exact Prod.ext (hp _) rfl
  · rw [if_pos h0, if_pos h0]
theorem zeroAt_V (r : Rec) (v : Int) (t : Nat) (h1 : 1 ≤ t) (h11 : t ≤ 11) : ({ r with V := v } : Rec).zeroAt t = r.zeroAt t := by
  rcases tag_cases h1 h11 with rfl | rfl | rfl | rfl | rfl | rfl | rfl | rfl | rfl | rfl | rfl
  all_goals rfl
theorem field_V (r : Rec) (v : Int) (last : Nat) (s : List UInt8) : fieldR { r with V := v } last s = ({ (fieldR r last s).1 with V := v }, (fieldR r last s).2) := by
  unfold fieldR
  by_cases h0 : (readL 0 0 s).2.2 ≠ 0
  · rw [if_pos h0, if_pos h0]
  rw [if_neg h0, if_neg h0]
  by_cases hb : (readL 0 0 s).1 = 0 ∨ 11 < (readL 0 0 s).1 ∨ (readL 0 0 s).1 ≤ last
  · rw [if_pos hb, if_pos hb]
  rw [if_neg hb, if_neg hb, val_V]
  simp only
  by_cases hv : (valR r (readL 0 0 s).1 (s.drop (readL 0 0 s).2.1)).2.2 ≠ 0
  · rw [if_pos hv, if_pos hv]
  rw [if_neg hv, if_neg hv, zeroAt_V _ v _ (by omega) (by omega)]
  cases (valR r (readL 0 0 s).1 (s.drop (readL 0 0 s).2.1)).1.zeroAt (readL 0 0 s).1 <;> rfl
theorem dec_V : ∀ n (r : Rec) (v : Int) (last : Nat) (s : List UInt8), decN n { r with V := v } last s = ({ (decN n r last s).1 with V := v }, (decN n r last s).2)
  | 0, _, _, _, _ => rfl
  | n + 1, r, v, last, s => by
    unfold decN
    by_cases hs : s = []
    · rw [if_pos hs, if_pos hs]
    rw [if_neg hs, if_neg hs, field_V]
    simp only
    by_cases he : (fieldR r last s).2.2.2 ≠ 0
    · rw [if_pos he, if_pos he]
    rw [if_neg he, if_neg he, dec_V n]
/-- What is read in version 2 is read in version 3 as the same. -/
theorem dec_later {s : List UInt8} (h : decE 2 s = 0) : decE 3 s = 0 ∧ decR 3 s = { decR 2 s with V := 3 } := by
  have e2 : decR 2 s = (decN 12 (startR 2) 0 s).1 := if_pos h
  obtain ⟨_, hc, hv, _⟩ := enc_of_dec h
  rw [e2] at hc hv
  have e3 : decN 12 (startR 3) 0 s = ({ (decN 12 (startR 2) 0 s).1 with V := 3 }, (decN 12 (startR 2) 0 s).2) := dec_V 12 (startR 2) 3 0 s
  have h2 : (decN 12 (startR 2) 0 s).2 = 0 := by
    unfold decE at h
    rw [if_neg (by omega)] at h
    split at h
    · exact h
    · rename_i h0
      simpa using h0
  have hc3 : ({ (decN 12 (startR 2) 0 s).1 with V := 3 } : Rec).chk = 0 := by
    obtain ⟨v, k, hv', hk, h1, hk2, hs, hval⟩ := (chk_valid _).1 hc
    obtain rfl : v = 2 := by omega
    exact chk_of (v := 3) rfl hk (by omega) hk2 hs (valid_stay hk2 hv hk hval)
  have e0 : decE 3 s = 0 := by
    unfold decE
    rw [if_neg (by omega), e3]
    simp only
    rw [if_neg (by simp [h2])]
    exact hc3
  refine ⟨e0, ?_⟩
  unfold decR
  rw [if_pos e0, if_pos h, e3]
end Go.Proofs.YtikodgaomhmbmaaDoor
namespace Go.Proofs.YtikodgaomhmbmaaDoor
open Go.RowKit
attribute [local go_sem] Rec.size_ Rec.g0 Rec.g1 Rec.g2 Rec.g3 Rec.g4 Rec.g5 Rec.g6 Rec.g7 Rec.g8 Rec.g9 Rec.g10 Rec.g11 Rec.fold

theorem grown_then {w w1 w2 : World} {g : Nat} (h : w.grownBy w1 none) (k : w1.grownBy w2 (some g)) : w.grownBy w2 (some g) :=
  ⟨k.os.trans h.os, k.tape.trans h.tape, k.output.trans h.output, Nat.le_trans h.size k.size, fun i hi hne => (k.block i (Nat.lt_of_lt_of_le hi h.size) hne).trans (h.block i hi (by simp))⟩
theorem put_cells (r : Rec) (A : Option Addr) (c t : Nat) (x : Int) (h1 : 1 ≤ t) (h9 : t ≤ 9) : (r.cells A c).setIfInBounds t (.int .i64 x) = (r.put t x).cells A c := by
  rcases tag_cases h1 (by omega) with rfl | rfl | rfl | rfl | rfl | rfl | rfl | rfl | rfl | rfl | rfl
  case inr.inr.inr.inr.inr.inr.inr.inr.inr.inl => omega
  case inr.inr.inr.inr.inr.inr.inr.inr.inr.inr => omega
  all_goals rfl
theorem put_data (r : Rec) (t : Nat) (x : Int) : (r.put t x).Data = r.Data := by unfold Rec.put; split <;> rfl

/-- What record.value answers. -/
def ValSaid (P : Program) (r' : Rec) (p k : Nat) (er : Int) (L : Option Addr) (len cl t g base : Nat) (w : World) : Prop :=
  Calls P 70 #[.pointer (some ⟨g, 0, none⟩), .int .i64 t, .slice L len cl, .int .i64 p] w fun e w' => ∃ A' c', e = .returned (.tuple #[.int .i64 (readAt p k er), .int .i64 er]) ∧ Blk w' g 27 (r'.cells A' c')
    ∧ w'.ownsRow base 5 1 (.slice A' r'.Data.length c') r'.Data.length (u8s r'.Data) ∧ w.grownBy w' (some g)

set_option maxHeartbeats 1000000 in
set_option maxRecDepth 100000 in
theorem value7_calls (r : Rec) (A : Option Addr) (c g : Nat) (l : List UInt8) (L : Option Addr) (cl p base : Nat) (hp : p ≤ l.length) (hl : l.length ≤ 140737488351232) 
    (w : World) (hd : RB w L l) (hg : Blk w g 27 (r.cells A c))
        (hb0 : base ≤ w.heap.size) (ho : w.ownsRow base 5 1 (.slice A r.Data.length c) r.Data.length (u8s r.Data)) :
    ValSaid Tryd.prog (valR r 7 (l.drop p)).1 p (valR r 7 (l.drop p)).2.1 (valR r 7 (l.drop p)).2.2 L l.length cl 7 g base w := by
  have cu := readInt_calls l L cl p hp hl w hd
  have hv : valR r 7 (l.drop p) = (r.put 7 (if (readL 0 0 (l.drop p)).2.2 = 0 then zag (readL 0 0 (l.drop p)).1 else 0), (readL 0 0 (l.drop p)).2.1, (readL 0 0 (l.drop p)).2.2) := if_pos rfl
  rw [hv]
  simp only
  have hr : readEnd p (readL 0 0 (l.drop p)) = readAt p (readL 0 0 (l.drop p)).2.1 (readL 0 0 (l.drop p)).2.2 := rfl
  rw [hr] at cu
  unfold ValSaid
  generalize (if (readL 0 0 (l.drop p)).2.2 = 0 then zag (readL 0 0 (l.drop p)).1 else 0) = z at cu
  generalize readAt p (readL 0 0 (l.drop p)).2.1 (readL 0 0 (l.drop p)).2.2 = q at cu
  generalize (readL 0 0 (l.drop p)).2.2 = er at cu
  have Cu := Lib.hid cu
  have hne := own_blk_ne ho hg (by decide)
  clear cu hv hr hd
  go_enter Tryd.func70, Tryd.ntmps70
  go_wp2_with (first
    | (go_at_call 84; (with_reducible refine Cu.out.mono ?_); rintro e w1 ⟨rfl, rfl⟩)
    | ((with_reducible refine gate_store (p := 35) rfl ?_); refine ev_store_cell rfl rfl rfl hg rfl (i := 7) (v := .int .i64 z) rfl rfl (by kernel_rfl) (show (7 : Nat) < 12 by decide) ?_; intro W1 hgn hgr; replace hgn : Blk W1 g _ ((r.put 7 z).cells A c) := hgn; clear hg))
  go_ret2
  exact ⟨A, c, rfl, hgn, ho.kept hgr (.inr hne), hgr⟩

set_option maxHeartbeats 1000000 in
set_option maxRecDepth 100000 in
theorem value10_calls (r : Rec) (A : Option Addr) (c g : Nat) (l : List UInt8) (L : Option Addr) (cl p base : Nat) (hp : p ≤ l.length) (hcl : l.length ≤ cl) (hl : l.length ≤ 140737488351232)
    (w : World) (hd : RB w L l) (hg : Blk w g 27 (r.cells A c))
        (hb0 : base ≤ w.heap.size) (ho : w.ownsRow base 5 1 (.slice A r.Data.length c) r.Data.length (u8s r.Data)) :
    ValSaid Tryd.prog (valR r 10 (l.drop p)).1 p (valR r 10 (l.drop p)).2.1 (valR r 10 (l.drop p)).2.2 L l.length cl 10 g base w := by
  have cu := readBytes_calls l L cl p 192 hp hcl hl (by omega) w hd
  rw [show ((192 : Nat) : Int) = 192 from rfl] at cu
  have hv : valR r 10 (l.drop p) = ({ r with Name := ⟨(readB 192 (l.drop p)).1.toArray⟩ }, (readB 192 (l.drop p)).2.1, (readB 192 (l.drop p)).2.2) := by unfold valR; rw [if_neg (by omega), if_pos rfl]
  rw [hv]
  simp only
  unfold ValSaid
  generalize readAt p (readB 192 (l.drop p)).2.1 (readB 192 (l.drop p)).2.2 = q at cu
  generalize (readB 192 (l.drop p)).2.2 = er at cu
  generalize (readB 192 (l.drop p)).1 = x at cu
  have Cu := Lib.hid cu
  have hne := own_blk_ne ho hg (by decide)
  clear cu hv hd
  go_enter Tryd.func70, Tryd.ntmps70
  go_wp2_with (first
    | (go_at_call 85; (with_reducible refine Cu.out.mono ?_); rintro e w1 ⟨A5, c5, rfl, oA, hb⟩; have hg1 := hg.next hb; have ho1 := own_next ho hb; have cv := conv_bytes (own_rb oA) c5; clear hg)
    | ((with_reducible refine gate_store (p := 51) rfl ?_); refine ev_store_cell rfl rfl rfl hg1 rfl (i := 10) (v := .string ⟨x.toArray⟩) rfl rfl (by kernel_rfl) (show (10 : Nat) < 12 by decide) ?_; intro W1 hgn hgr; replace hgn : Blk W1 g _ (({ r with Name := ⟨x.toArray⟩ } : Rec).cells A c) := hgn; clear hg1))
  go_ret2
  exact ⟨A, c, rfl, hgn, ho1.kept hgr (.inr hne), grown_then (grown_of_below hb) hgr⟩

set_option maxHeartbeats 1000000 in
set_option maxRecDepth 100000 in
theorem value11_calls (r : Rec) (A : Option Addr) (c g : Nat) (l : List UInt8) (L : Option Addr) (cl p base : Nat) (hp : p ≤ l.length) (hcl : l.length ≤ cl) (hl : l.length ≤ 140737488351232)
    (w : World) (hd : RB w L l) (hg : Blk w g 27 (r.cells A c))
        (hb0 : base ≤ w.heap.size) (ho : w.ownsRow base 5 1 (.slice A r.Data.length c) r.Data.length (u8s r.Data)) :
    ValSaid Tryd.prog (valR r 11 (l.drop p)).1 p (valR r 11 (l.drop p)).2.1 (valR r 11 (l.drop p)).2.2 L l.length cl 11 g base w := by
  have cu := readBytes_calls l L cl p 16384 hp hcl hl (by omega) w hd
  rw [show ((16384 : Nat) : Int) = 16384 from rfl] at cu
  have hv : valR r 11 (l.drop p) = ({ r with Data := (readB 16384 (l.drop p)).1 }, (readB 16384 (l.drop p)).2.1, (readB 16384 (l.drop p)).2.2) := by unfold valR; rw [if_neg (by omega), if_neg (by omega), if_pos rfl]
  rw [hv]
  simp only
  unfold ValSaid
  generalize readAt p (readB 16384 (l.drop p)).2.1 (readB 16384 (l.drop p)).2.2 = q at cu
  generalize (readB 16384 (l.drop p)).2.2 = er at cu
  generalize (readB 16384 (l.drop p)).1 = x at cu
  have Cu := Lib.hid cu
  clear cu hv hd
  go_enter Tryd.func70, Tryd.ntmps70
  go_wp2_with (first
    | (go_at_call 85; (with_reducible refine Cu.out.mono ?_); rintro e w1 ⟨A5, c5, rfl, oA, hb⟩; have hg1 := hg.next hb; have hne := own_blk_ne oA hg1 (by decide); clear hg)
    | ((with_reducible refine gate_store (p := 66) rfl ?_); refine ev_store_cell rfl rfl rfl hg1 rfl (i := 11) (v := .slice A5 x.length c5) rfl rfl (by kernel_rfl) (show (11 : Nat) < 12 by decide) ?_; intro W1 hgn hgr; replace hgn : Blk W1 g _ (({ r with Data := x } : Rec).cells A5 c5) := hgn; clear hg1))
  go_ret2
  exact ⟨A5, c5, rfl, hgn, own_mono (oA.kept hgr (.inr hne)) hb0, grown_then (grown_of_below hb) hgr⟩

set_option maxHeartbeats 1000000 in
set_option maxRecDepth 100000 in
theorem valueN_calls (r : Rec) (A : Option Addr) (c g : Nat) (l : List UInt8) (L : Option Addr) (cl p base t : Nat) (h1t : 1 ≤ t) (h9t : t ≤ 9) (h7 : t ≠ 7) (hp : p ≤ l.length) (hl : l.length ≤ 140737488351232)
    (w : World) (hd : RB w L l) (hg : Blk w g 27 (r.cells A c))
        (hb0 : base ≤ w.heap.size) (ho : w.ownsRow base 5 1 (.slice A r.Data.length c) r.Data.length (u8s r.Data)) :
    ValSaid Tryd.prog (valR r t (l.drop p)).1 p (valR r t (l.drop p)).2.1 (valR r t (l.drop p)).2.2 L l.length cl t g base w := by
  have cu := readUint_calls l L cl p hp hl w hd
  have hv : valR r t (l.drop p) = _ := rfl
  conv at hv => rhs; unfold valR
  rw [if_neg h7, if_neg (by omega), if_neg (by omega)] at hv
  have hu := readL_lt (l.drop p) 0 0 (by omega) (by simp)
  have hr : readEnd p (readL 0 0 (l.drop p)) = readAt p (readL 0 0 (l.drop p)).2.1 (readL 0 0 (l.drop p)).2.2 := rfl
  rw [hr] at cu
  generalize readL 0 0 (l.drop p) = x at cu hv hu
  obtain ⟨u, k, er⟩ := x
  simp only at cu hv hu
  have t7 : ((t : Int) == 7) = false := int_beq_false (by omega)
  have t10 : ((t : Int) == 10) = false := int_beq_false (by omega)
  have t11 : ((t : Int) == 11) = false := int_beq_false (by omega)
  have hne := own_blk_ne ho hg (by decide)
  by_cases h0 : er = 0
  · subst h0
    have t1 : ((0 : Int) != 0) = false := rfl
    rw [if_neg (by simp)] at hv
    have q : readAt p k 0 = ((p + k : Nat) : Int) := rfl
    rw [q] at cu
    by_cases hm : 9223372036854775807 < u
    · rw [if_pos hm] at hv
      rw [hv]
      simp only
      have t2 : decide ((9223372036854775807 : Int) < (u : Int)) = true := by rw [decide_eq_true_eq]; omega
      have t2' : decide (9223372036854775807 < u) = true := by rw [decide_eq_true_eq]; exact hm
      unfold ValSaid
      have Cu := Lib.hid cu
      clear cu hv hd hr q hm hu
      go_enter Tryd.func70, Tryd.ntmps70
      go_wp2_with (first
        | (go_at_call 69; (with_reducible refine Cu.out.mono ?_); rintro e w1 ⟨rfl, rfl⟩))
      go_ret2
      exact ⟨A, c, rfl, hg, ho, World.grownBy.refl _ _⟩
    · rw [if_neg hm] at hv
      rw [hv]
      simp only
      have t2 : decide ((9223372036854775807 : Int) < (u : Int)) = false := by rw [decide_eq_false_iff_not]; omega
      have t2' : decide (9223372036854775807 < u) = false := by rw [decide_eq_false_iff_not]; exact hm
      have tw := wrap64_nat u (Nat.le_of_not_lt hm)
      have tw2 := wrap_i64_nat u (Nat.le_of_not_lt hm)
      have pc := put_cells r A c t u h1t h9t
      have pd := put_data r t u
      unfold ValSaid
      rw [pd, show readAt p k 0 = ((p + k : Nat) : Int) from rfl]
      generalize r.put t (u : Int) = r' at pc pd
      have Cu := Lib.hid cu
      have Pc := Lib.hid pc
      clear cu hv hd hr q hm hu pc
      go_enter Tryd.func70, Tryd.ntmps70
      go_wp2_with (first
        | (go_at_call 69; (with_reducible refine Cu.out.mono ?_); rintro e w1 ⟨rfl, rfl⟩)
        | (go_at_call 60; (with_reducible refine (number_calls g t h1t h9t _).mono ?_); rintro e w1 ⟨rfl, rfl⟩)
        | ((with_reducible refine gate_store (p := 86) rfl ?_); refine ev_store_cell rfl rfl rfl hg rfl (i := t) (v := .int .i64 u) rfl rfl (by kernel_rfl) (show t < 12 by omega) ?_; intro W1 hgn hgr; rw [Pc.out] at hgn; clear hg))
      go_ret2
      exact ⟨A, c, rfl, hgn, ho.kept hgr (.inr hne), hgr⟩
  · rw [if_pos h0] at hv
    rw [hv]
    simp only
    have t1 := int_bne_true h0
    have q : readAt p k er = 0 := if_neg h0
    have q2 : readAt p 0 er = 0 := if_neg h0
    rw [q] at cu
    unfold ValSaid
    rw [q2]
    have Cu := Lib.hid cu
    clear cu hv hd hr q q2 h0 hu
    go_enter Tryd.func70, Tryd.ntmps70
    go_wp2_with (first
      | (go_at_call 69; (with_reducible refine Cu.out.mono ?_); rintro e w1 ⟨rfl, rfl⟩))
    go_ret2
    exact ⟨A, c, rfl, hg, ho, World.grownBy.refl _ _⟩

theorem value_calls (r : Rec) (A : Option Addr) (c g : Nat) (l : List UInt8) (L : Option Addr) (cl p base t : Nat) (h1t : 1 ≤ t) (h11 : t ≤ 11) (hp : p ≤ l.length) (hcl : l.length ≤ cl) (hl : l.length ≤ 140737488351232)
    (w : World) (hd : RB w L l) (hg : Blk w g 27 (r.cells A c))
        (hb0 : base ≤ w.heap.size) (ho : w.ownsRow base 5 1 (.slice A r.Data.length c) r.Data.length (u8s r.Data)) :
    ValSaid Tryd.prog (valR r t (l.drop p)).1 p (valR r t (l.drop p)).2.1 (valR r t (l.drop p)).2.2 L l.length cl t g base w := by
  by_cases h7 : t = 7
  · subst h7
    exact value7_calls r A c g l L cl p base hp hl w hd hg hb0 ho
  by_cases h10 : t = 10
  · subst h10
    exact value10_calls r A c g l L cl p base hp hcl hl w hd hg hb0 ho
  by_cases h11' : t = 11
  · subst h11'
    exact value11_calls r A c g l L cl p base hp hcl hl w hd hg hb0 ho
  · exact valueN_calls r A c g l L cl p base t h1t (by omega) h7 hp hl w hd hg hb0 ho
end Go.Proofs.YtikodgaomhmbmaaDoor
namespace Go.Proofs.YtikodgaomhmbmaaDoor
open Go.RowKit
attribute [local go_sem] Rec.size_ Rec.g0 Rec.g1 Rec.g2 Rec.g3 Rec.g4 Rec.g5 Rec.g6 Rec.g7 Rec.g8 Rec.g9 Rec.g10 Rec.g11 Rec.fold

theorem readB_len (max : Nat) (s : List UInt8) : (readB max s).1.length ≤ max := by
  unfold readB
  split
  · simp
  · split
    · simp
    · split
      · simp
      · simp only [List.length_take]
        omega
theorem val_len {r : Rec} {t : Nat} {s : List UInt8} (h : (valR r t s).2.2 = 0) : (valR r t s).2.1 ≤ s.length := by
  have hb : ∀ m, (readB m s).2.2 = 0 → (readB m s).2.1 ≤ s.length := fun m hm => by
    obtain ⟨e1, e2, _⟩ := readB_0 hm
    have := congrArg List.length e1
    rw [List.length_append] at this
    omega
  have hl : (readL 0 0 s).2.2 = 0 → (readL 0 0 s).2.1 ≤ s.length := fun hm => by have := readL_took s 0 0 hm; omega
  unfold valR at h ⊢
  by_cases h7 : t = 7
  · rw [if_pos h7] at h ⊢
    exact hl h
  by_cases h10 : t = 10
  · rw [if_neg h7, if_pos h10] at h ⊢
    exact hb _ h
  by_cases h11 : t = 11
  · rw [if_neg h7, if_neg h10, if_pos h11] at h ⊢
    exact hb _ h
  rw [if_neg h7, if_neg h10, if_neg h11] at h ⊢
  by_cases h0 : (readL 0 0 s).2.2 = 0
  · rw [if_neg (by simp [h0])] at h ⊢
    by_cases hm : 9223372036854775807 < (readL 0 0 s).1
    · rw [if_pos hm]
      exact Nat.zero_le _
    · rw [if_neg hm]
      exact hl h0
  · rw [if_pos h0]
    exact Nat.zero_le _
theorem val_fits {r : Rec} (hf : r.Fits) (t : Nat) (s : List UInt8) : (valR r t s).1.Fits := by
  have hp : ∀ t x, (r.put t x).Fits := fun t x => by
    refine ⟨?_, by rw [put_data]; exact hf.data⟩
    have : (r.put t x).Name = r.Name := by unfold Rec.put; split <;> rfl
    rw [this]
    exact hf.name
  have h1 := readB_len 192 s
  have h2 := readB_len 16384 s
  unfold valR
  repeat' split
  · exact hp 7 _
  · exact hp 7 _
  · refine ⟨?_, hf.data⟩
    show (readB 192 s).1.toArray.size ≤ _
    simp
    omega
  · refine ⟨hf.name, ?_⟩
    show (readB 16384 s).1.length ≤ _
    omega
  · exact hf
  · exact hf
  · exact hp t _
theorem dec_bad {v : Int} {l : List UInt8} (h : v < 1 ∨ 3 < v) : decE v l = 3 ∧ decR v l = Rec.zero := by
  have e : decE v l = 3 := if_pos h
  exact ⟨e, if_neg (by rw [e]; decide)⟩
theorem dec_err {v : Int} {l : List UInt8} {r : Rec} {e : Int} (hv : ¬ (v < 1 ∨ 3 < v)) (h : decN 12 (startR v) 0 l = (r, e)) (he : e ≠ 0) : decE v l = e ∧ decR v l = Rec.zero := by
  have e1 : decE v l = e := by unfold decE; rw [if_neg hv, h]; exact if_pos he
  exact ⟨e1, if_neg (by rw [e1]; exact he)⟩
theorem dec_end {v : Int} {l : List UInt8} {r : Rec} (hv : ¬ (v < 1 ∨ 3 < v)) (h : decN 12 (startR v) 0 l = (r, 0)) : decE v l = r.chk ∧ decR v l = if r.chk = 0 then r else Rec.zero := by
  have e1 : decE v l = r.chk := by unfold decE; rw [if_neg hv, h]; rfl
  refine ⟨e1, ?_⟩
  unfold decR
  rw [e1, h]
theorem decN_end {n : Nat} {r : Rec} {last : Nat} {s : List UInt8} (hs : s = []) : decN n r last s = (r, 0) := by
  cases n with
  | zero => rfl
  | succ n => simp [decN, hs]
theorem decN_err {n : Nat} {r : Rec} {last : Nat} {s : List UInt8} {e : Int} (hn : 0 < n) (hs : s ≠ []) (h : (fieldR r last s).2.2.2 = e) (he : e ≠ 0) : decN n r last s = (r, e) := by
  obtain ⟨m, rfl⟩ : ∃ m, n = m + 1 := ⟨n - 1, by omega⟩
  simp only [decN]
  rw [if_neg hs, h, if_pos he]
theorem decN_next {n : Nat} {r r' : Rec} {last g k : Nat} {s : List UInt8} (hn : 0 < n) (hs : s ≠ []) (h : fieldR r last s = (r', g, k, 0)) : decN n r last s = decN (n - 1) r' g (s.drop k) := by
  obtain ⟨m, rfl⟩ : ∃ m, n = m + 1 := ⟨n - 1, by omega⟩
  simp only [decN]
  rw [if_neg hs, h, if_neg (by simp)]
  rfl

/-- What Decode answers, in the words of its post. -/
def DecSaid (P : Program) (r' : Rec) (er v : Int) (L : Option Addr) (len cl : Nat) (w : World) : Prop :=
  Calls P 47 #[.int .i64 v, .slice L len cl] w fun e w' => ∃ A' c', e = .returned (.tuple #[.agg (r'.cells A' c'), .int .i64 er])
    ∧ w'.ownsRow w.heap.size 5 1 (.slice A' r'.Data.length c') r'.Data.length (u8s r'.Data) ∧ Below w.heap.size w w'

set_option maxHeartbeats 4000000 in
set_option maxRecDepth 100000 in
theorem decode_calls (v : Int) (l : List UInt8) (L : Option Addr) (cl : Nat) (hcl : l.length ≤ cl) (hl : l.length ≤ 140737488351232) (w : World) (hT : Tabs w) (hd : RB w L l) :
    DecSaid Tryd.prog (decR v l) (decE v l) v L l.length cl w := by
  have HB := Below.refl w.heap.size w
  have HT := Lib.hid hT
  clear hT
  unfold DecSaid
  by_cases hbad : v < 1 ∨ 3 < v
  · rw [(dec_bad hbad).1, (dec_bad hbad).2]
    by_cases hv1 : v < 1
    · have t1 : decide (v < 1) = true := decide_eq_true hv1
      clear hbad
      go_enter Tryd.func47, Tryd.ntmps47
      go_wp2_with (first
        | ((with_reducible refine gate_dst (N := 4) rfl ?_); refine ev_alloc rfl rfl _ rec_zero ?_; intro g4 W1 hg4 hsz hbn; have hgr := grown_of_below hbn; replace hg4 : Blk W1 g4 _ (Rec.zero.cells none 0) := hg4; have zg4 : w.heap.size ≤ g4 := (by have := HB.size; omega); replace HB := HB.grown hgr (by have := HB.size; omega) (by simp); have hcg4 := hg4.cell; have hfg4 := hg4.frozen; clear hsz hbn hgr)
        | ((with_reducible refine gate_store (p := 4) rfl ?_); refine ev_store_row (cs := Rec.zero.cells none 0) rfl rfl rfl hg4 rfl rfl rec_size rfl (cells_one _ _ _) ?_; intro W2 hgn hgr; replace HB := HB.grown hgr (by have := HB.size; omega) (by intro k e; injection e with e; omega); replace hg4 := hgn; replace hcg4 := hg4.cell; replace hfg4 := hg4.frozen; clear hgn hgr))
      refine ret_row rfl hg4 rfl Tryd.underlying27 rfl rec_size rfl ?_
      exact ⟨none, 0, rfl, own_nil _ _ _ _, HB⟩
    · have t1 : decide (v < 1) = false := decide_eq_false hv1
      have t2 : decide (3 < v) = true := decide_eq_true (by omega)
      clear hbad
      go_enter Tryd.func47, Tryd.ntmps47
      go_wp2_with (first
        | ((with_reducible refine gate_dst (N := 4) rfl ?_); refine ev_alloc rfl rfl _ rec_zero ?_; intro g4 W1 hg4 hsz hbn; have hgr := grown_of_below hbn; replace hg4 : Blk W1 g4 _ (Rec.zero.cells none 0) := hg4; have zg4 : w.heap.size ≤ g4 := (by have := HB.size; omega); replace HB := HB.grown hgr (by have := HB.size; omega) (by simp); have hcg4 := hg4.cell; have hfg4 := hg4.frozen; clear hsz hbn hgr)
        | ((with_reducible refine gate_store (p := 4) rfl ?_); refine ev_store_row (cs := Rec.zero.cells none 0) rfl rfl rfl hg4 rfl rfl rec_size rfl (cells_one _ _ _) ?_; intro W2 hgn hgr; replace HB := HB.grown hgr (by have := HB.size; omega) (by intro k e; injection e with e; omega); replace hg4 := hgn; replace hcg4 := hg4.cell; replace hfg4 := hg4.frozen; clear hgn hgr))
      refine ret_row rfl hg4 rfl Tryd.underlying27 rfl rec_size rfl ?_
      exact ⟨none, 0, rfl, own_nil _ _ _ _, HB⟩
  have hv := hbad
  have t1 : decide (v < 1) = false := decide_eq_false (by omega)
  have t2 : decide (3 < v) = false := decide_eq_false (by omega)
  clear hbad
  go_enter Tryd.func47, Tryd.ntmps47
  go_wp2_with (first
    | ((with_reducible refine gate_dst (N := 4) rfl ?_); refine ev_alloc rfl rfl _ rec_zero ?_; intro g4 W1 hg4 hsz hbn; have hgr := grown_of_below hbn; replace hg4 : Blk W1 g4 _ (Rec.zero.cells none 0) := hg4; have zg4 : w.heap.size ≤ g4 := (by have := HB.size; omega); replace HB := HB.grown hgr (by have := HB.size; omega) (by simp); have hcg4 := hg4.cell; have hfg4 := hg4.frozen; clear hsz hbn hgr)
    | ((with_reducible refine gate_dst (N := 6) rfl ?_); refine ev_alloc rfl rfl _ rec_zero ?_; intro g6 W2 hg6 hsz hbn; have hgr := grown_of_below hbn; have ng4g6 : g4 ≠ g6 := (by have := hg4.lt; omega); replace hg6 : Blk W2 g6 _ (Rec.zero.cells none 0) := hg6; have zg6 : w.heap.size ≤ g6 := (by have := HB.size; omega); replace hg4 := hg4.grown hgr (by simp); replace HB := HB.grown hgr (by have := HB.size; omega) (by simp); have hcg6 := hg6.cell; have hfg6 := hg6.frozen; replace hcg4 := hg4.cell; replace hfg4 := hg4.frozen; clear hsz hbn hgr)
    | ((with_reducible refine gate_store (p := 6) rfl ?_); refine ev_store_row (cs := (startR v).cells none 0) rfl rfl rfl hg6 rfl rfl rec_size rfl (cells_one _ _ _) ?_; intro W3 hgn hgr; replace hg4 := hg4.grown hgr (by intro e; injection e with e; omega); replace HB := HB.grown hgr (by have := HB.size; omega) (by intro k e; injection e with e; omega); replace hg6 := hgn; replace hcg4 := hg4.cell; replace hfg4 := hg4.frozen; replace hcg6 := hg6.cell; replace hfg6 := hg6.frozen; clear hgn hgr))
  go_loopg [7, 8] 12 (fun n v7 v8 wr => ∃ (r : Rec) (A6 : Option Addr) (c6 last p : Nat), 12 ≤ n + last ∧ last ≤ 11 ∧ v7 = .int .i64 last ∧ v8 = .int .i64 p ∧ Aside (p ≤ l.length ∧ decN 12 (startR v) 0 l = decN n r last (l.drop p) ∧ r.Fits
    ∧ Blk wr g4 _ (Rec.zero.cells none 0) ∧ Blk wr g6 _ (r.cells A6 c6) ∧ wr.ownsRow w.heap.size 5 1 (.slice A6 r.Data.length c6) r.Data.length (u8s r.Data) ∧ Below w.heap.size w wr))
  case atStart => exact ⟨startR v, none, 0, 0, 0, by omega, by omega, rfl, rfl, ⟨by omega, rfl, ⟨Rec.Fits.zero.name, Rec.Fits.zero.data⟩, hg4, hg6, own_nil _ _ _ _, HB⟩⟩
  case round =>
    clear hg4 hcg4 hfg4 hg6 hcg6 hfg6 HB
    obtain ⟨r, A6, c6, last, p, hn, hlast, rfl, rfl, HA⟩ := hrel
    obtain ⟨hp, hdec, hf, hg4, hg6, oA, HB⟩ := HA.out
    clear HA
    have hcg4 := hg4.cell
    have hfg4 := hg4.frozen
    have hcg6 := hg6.cell
    have hfg6 := hg6.frozen
    have hn0 : 0 < gk := by omega
    by_cases hlt : p < l.length
    · have t3 : decide ((p : Int) < (l.length : Int)) = true := by rw [decide_eq_true_eq]; omega
      have t3' : decide (p < l.length) = true := by rw [decide_eq_true_eq]; exact hlt
      have hne : l.drop p ≠ [] := by
        intro e
        have := congrArg List.length e
        rw [List.length_drop, List.length_nil] at this
        omega
      have cu := fun w hd => readUint_calls l L cl p (Nat.le_of_lt hlt) hl w hd
      have hu := readL_lt (l.drop p) 0 0 (by omega) (by simp)
      have ht := readL_took (l.drop p) 0 0
      have hfr : fieldR r last (l.drop p) = _ := rfl
      conv at hfr => rhs; unfold fieldR
      rw [List.drop_drop] at hfr
      rw [List.length_drop] at ht
      generalize hs : l.drop p = s at hfr hdec hne cu hu ht
      generalize readL 0 0 s = x at cu hu ht hfr
      obtain ⟨u, k, er⟩ := x
      simp only at hu ht hfr
      by_cases h0 : er = 0
      · subst h0
        have q : readEnd p (u, k, 0) = ((p + k : Nat) : Int) := rfl
        rw [if_neg (by simp)] at hfr
        obtain ⟨k1, k2, k3⟩ := ht rfl
        have hq : p + k ≤ l.length := by omega
        rw [q] at cu
        have z1 : ((0 : Int) != 0) = false := rfl
        have Cu := Lib.hid cu
        by_cases hb : u = 0 ∨ 11 < u ∨ u ≤ last
        · rw [if_pos hb] at hfr
          have hd2 := hdec.trans (decN_err (e := 37) hn0 hne (by rw [hfr]) (by decide))
          have Hd := Lib.hid hd2
          have He := Lib.hid (show (37 : Int) ≠ 0 by decide)
          by_cases b1 : u = 0
          · have b1' : ((u : Int) == 0) = true := by simp [b1]
            clear hfr hdec hne cu hu ht q hb hd2 hs k1 k2 k3 hq b1
            go_wp2_with (first
              | (go_at_call 69; (with_reducible refine (Cu.out _ (hd.next HB)).mono ?_); rintro e w1 ⟨rfl, rfl⟩)
              | ((with_reducible refine gate_store (p := 4) rfl ?_); refine ev_store_row (cs := Rec.zero.cells none 0) rfl rfl rfl hg4 rfl rfl rec_size rfl (cells_one _ _ _) ?_; intro W1 hgn hgr; replace hg6 := hg6.grown hgr (by intro e; injection e with e; omega); replace oA := oA.kept hgr (.inr (own_blk_ne oA hg4 (by decide))); replace HB := HB.grown hgr (by have := HB.size; omega) (by intro k e; injection e with e; omega); replace hg4 := hgn; replace hcg4 := hg4.cell; replace hfg4 := hg4.frozen; replace hcg6 := hg6.cell; replace hfg6 := hg6.frozen; clear hgn hgr))
            refine ret_row rfl hg4 rfl Tryd.underlying27 rfl rec_size rfl ?_
            rw [(dec_err hv Hd.out He.out).1, (dec_err hv Hd.out He.out).2]
            exact ⟨none, 0, rfl, own_nil _ _ _ _, HB⟩
          · have b1' : ((u : Int) == 0) = false := int_beq_false (by omega)
            by_cases b2 : 11 < u
            · have b2' : decide ((11 : Int) < (u : Int)) = true := by rw [decide_eq_true_eq]; omega
              have b2'' : decide (11 < u) = true := by rw [decide_eq_true_eq]; exact b2
              clear hfr hdec hne cu hu ht q hb hd2 hs k1 k2 k3 hq b1 b2
              go_wp2_with (first
                | (go_at_call 69; (with_reducible refine (Cu.out _ (hd.next HB)).mono ?_); rintro e w1 ⟨rfl, rfl⟩)
                | ((with_reducible refine gate_store (p := 4) rfl ?_); refine ev_store_row (cs := Rec.zero.cells none 0) rfl rfl rfl hg4 rfl rfl rec_size rfl (cells_one _ _ _) ?_; intro W1 hgn hgr; replace hg6 := hg6.grown hgr (by intro e; injection e with e; omega); replace oA := oA.kept hgr (.inr (own_blk_ne oA hg4 (by decide))); replace HB := HB.grown hgr (by have := HB.size; omega) (by intro k e; injection e with e; omega); replace hg4 := hgn; replace hcg4 := hg4.cell; replace hfg4 := hg4.frozen; replace hcg6 := hg6.cell; replace hfg6 := hg6.frozen; clear hgn hgr))
              refine ret_row rfl hg4 rfl Tryd.underlying27 rfl rec_size rfl ?_
              rw [(dec_err hv Hd.out He.out).1, (dec_err hv Hd.out He.out).2]
              exact ⟨none, 0, rfl, own_nil _ _ _ _, HB⟩
            · have b2' : decide ((11 : Int) < (u : Int)) = false := by rw [decide_eq_false_iff_not]; omega
              have b2'' : decide (11 < u) = false := by rw [decide_eq_false_iff_not]; exact b2
              have b3 := wrap_i64_nat u (by omega)
              have b3' : decide ((u : Int) ≤ (last : Int)) = true := by rw [decide_eq_true_eq]; omega
              have b3'' : decide (u ≤ last) = true := by rw [decide_eq_true_eq]; omega
              clear hfr hdec hne cu hu ht q hb hd2 hs k1 k2 k3 hq b1 b2
              go_wp2_with (first
                | (go_at_call 69; (with_reducible refine (Cu.out _ (hd.next HB)).mono ?_); rintro e w1 ⟨rfl, rfl⟩)
                | ((with_reducible refine gate_store (p := 4) rfl ?_); refine ev_store_row (cs := Rec.zero.cells none 0) rfl rfl rfl hg4 rfl rfl rec_size rfl (cells_one _ _ _) ?_; intro W1 hgn hgr; replace hg6 := hg6.grown hgr (by intro e; injection e with e; omega); replace oA := oA.kept hgr (.inr (own_blk_ne oA hg4 (by decide))); replace HB := HB.grown hgr (by have := HB.size; omega) (by intro k e; injection e with e; omega); replace hg4 := hgn; replace hcg4 := hg4.cell; replace hfg4 := hg4.frozen; replace hcg6 := hg6.cell; replace hfg6 := hg6.frozen; clear hgn hgr))
              refine ret_row rfl hg4 rfl Tryd.underlying27 rfl rec_size rfl ?_
              rw [(dec_err hv Hd.out He.out).1, (dec_err hv Hd.out He.out).2]
              exact ⟨none, 0, rfl, own_nil _ _ _ _, HB⟩
        · rw [if_neg hb] at hfr
          have b1' : ((u : Int) == 0) = false := int_beq_false (by omega)
          have b2' : decide ((11 : Int) < (u : Int)) = false := by rw [decide_eq_false_iff_not]; omega
          have b2'' : decide (11 < u) = false := by rw [decide_eq_false_iff_not]; omega
          have b3 := wrap_i64_nat u (by omega)
          have b3' : decide ((u : Int) ≤ (last : Int)) = false := by rw [decide_eq_false_iff_not]; omega
          have b3'' : decide (u ≤ last) = false := by rw [decide_eq_false_iff_not]; omega
          have hu1 : 1 ≤ u := by omega
          have hlu : last < u := by omega
          have hu11 : u ≤ 11 := by omega
          have cv := fun (w' : World) hd hg (hz : w.heap.size ≤ w'.heap.size) ho => value_calls r A6 c6 g6 l L cl (p + k) w.heap.size u hu1 hu11 hq hcl hl w' hd hg hz ho
          have vl := val_len (r := r) (t := u) (s := l.drop (p + k))
          have vf := val_fits hf u (l.drop (p + k))
          rw [List.length_drop] at vl
          generalize hx : valR r u (l.drop (p + k)) = y at hfr cv vl vf
          obtain ⟨r', k', er'⟩ := y
          simp only at hfr cv vl vf
          by_cases h1 : er' = 0
          · subst h1
            rw [if_neg (by simp)] at hfr
            have q2 : readAt (p + k) k' 0 = ((p + k + k' : Nat) : Int) := rfl
            unfold ValSaid at cv
            rw [q2] at cv
            simp only [Int.natCast_add] at cv
            have vl2 := vl rfl
            have Cv := Lib.hid cv
            cases hz : r'.zeroAt u with
            | true =>
              rw [hz, if_pos rfl] at hfr
              have hd2 := hdec.trans (decN_err (e := 38) hn0 hne (by rw [hfr]) (by decide))
              have Hd := Lib.hid hd2
              have He := Lib.hid (show (38 : Int) ≠ 0 by decide)
              clear hfr hdec hne cu hu ht q hb hd2 hs k1 k2 k3 hx cv vl vl2 vf q2
              go_wp2_with (first
                | (go_at_call 69; (with_reducible refine (Cu.out _ (hd.next HB)).mono ?_); rintro e w1 ⟨rfl, rfl⟩)
                | (go_at_call 70; (with_reducible refine (Cv.out _ (hd.next HB) hg6 HB.size oA).mono ?_); rintro e WV ⟨A5, c5, rfl, hgn, on, hgr⟩; replace hg4 := hg4.grown hgr (by intro e; injection e with e; omega); replace HB := HB.grown hgr (by have := HB.size; omega) (by intro k e; injection e with e; omega); replace hg6 := hgn; replace oA := on; replace hcg4 := hg4.cell; replace hfg4 := hg4.frozen; replace hcg6 := hg6.cell; replace hfg6 := hg6.frozen; clear hgn hgr on)
                | (go_at_call 71; (with_reducible refine (zeroAny_calls r' A5 c5 g6 u hu1 hu11 _ hg6).mono ?_); rintro e w1 ⟨rfl, rfl⟩; rw [hz])
                | ((with_reducible refine gate_store (p := 4) rfl ?_); refine ev_store_row (cs := Rec.zero.cells none 0) rfl rfl rfl hg4 rfl rfl rec_size rfl (cells_one _ _ _) ?_; intro W1 hgn hgr; replace hg6 := hg6.grown hgr (by intro e; injection e with e; omega); replace oA := oA.kept hgr (.inr (own_blk_ne oA hg4 (by decide))); replace HB := HB.grown hgr (by have := HB.size; omega) (by intro k e; injection e with e; omega); replace hg4 := hgn; replace hcg4 := hg4.cell; replace hfg4 := hg4.frozen; replace hcg6 := hg6.cell; replace hfg6 := hg6.frozen; clear hgn hgr))
              refine ret_row rfl hg4 rfl Tryd.underlying27 rfl rec_size rfl ?_
              rw [(dec_err hv Hd.out He.out).1, (dec_err hv Hd.out He.out).2]
              exact ⟨none, 0, rfl, own_nil _ _ _ _, HB⟩
            | false =>
              rw [hz, if_neg (by simp)] at hfr
              have hd2 := hdec.trans (decN_next hn0 hne hfr)
              rw [← hs, List.drop_drop] at hd2
              have hd3 : decN 12 (startR v) 0 l = decN (gk - 1) r' u (l.drop (p + k + k')) := by rw [hd2, Nat.add_assoc]
              have Hd := Lib.hid hd3
              have hp2 : p + k + k' ≤ l.length := by omega
              clear hfr hdec hne cu hu ht q hb hd2 hd3 hs k1 k2 k3 hx cv vl vl2 q2
              go_wp2_with (first
                | (go_at_call 69; (with_reducible refine (Cu.out _ (hd.next HB)).mono ?_); rintro e w1 ⟨rfl, rfl⟩)
                | (go_at_call 70; (with_reducible refine (Cv.out _ (hd.next HB) hg6 HB.size oA).mono ?_); rintro e WV ⟨A5, c5, rfl, hgn, on, hgr⟩; replace hg4 := hg4.grown hgr (by intro e; injection e with e; omega); replace HB := HB.grown hgr (by have := HB.size; omega) (by intro k e; injection e with e; omega); replace hg6 := hgn; replace oA := on; replace hcg4 := hg4.cell; replace hfg4 := hg4.frozen; replace hcg6 := hg6.cell; replace hfg6 := hg6.frozen; clear hgn hgr on)
                | (go_at_call 71; (with_reducible refine (zeroAny_calls r' A5 c5 g6 u hu1 hu11 _ hg6).mono ?_); rintro e w1 ⟨rfl, rfl⟩; rw [hz]))
              go_roundg (gk - 1)
              case measure => omega
              case rel => exact ⟨r', A5, c5, u, p + k + k', by omega, by omega, by go_num, by go_num, ⟨hp2, Hd.out, vf, hg4, hg6, oA, HB⟩⟩
          · rw [if_pos h1] at hfr
            have z2 := int_bne_true h1
            have hd2 := hdec.trans (decN_err hn0 hne (by rw [hfr]) h1)
            have Hd := Lib.hid hd2
            have He := Lib.hid h1
            unfold ValSaid at cv
            simp only [Int.natCast_add] at cv
            have Cv := Lib.hid cv
            clear hfr hdec hne cu hu ht q hb hd2 hs k1 k2 k3 hx cv vl vf h1
            go_wp2_with (first
              | (go_at_call 69; (with_reducible refine (Cu.out _ (hd.next HB)).mono ?_); rintro e w1 ⟨rfl, rfl⟩)
              | (go_at_call 70; (with_reducible refine (Cv.out _ (hd.next HB) hg6 HB.size oA).mono ?_); rintro e WV ⟨A5, c5, rfl, hgn, on, hgr⟩; replace hg4 := hg4.grown hgr (by intro e; injection e with e; omega); replace HB := HB.grown hgr (by have := HB.size; omega) (by intro k e; injection e with e; omega); replace hg6 := hgn; replace oA := on; replace hcg4 := hg4.cell; replace hfg4 := hg4.frozen; replace hcg6 := hg6.cell; replace hfg6 := hg6.frozen; clear hgn hgr on)
              | ((with_reducible refine gate_store (p := 4) rfl ?_); refine ev_store_row (cs := Rec.zero.cells none 0) rfl rfl rfl hg4 rfl rfl rec_size rfl (cells_one _ _ _) ?_; intro W1 hgn hgr; replace hg6 := hg6.grown hgr (by intro e; injection e with e; omega); replace oA := oA.kept hgr (.inr (own_blk_ne oA hg4 (by decide))); replace HB := HB.grown hgr (by have := HB.size; omega) (by intro k e; injection e with e; omega); replace hg4 := hgn; replace hcg4 := hg4.cell; replace hfg4 := hg4.frozen; replace hcg6 := hg6.cell; replace hfg6 := hg6.frozen; clear hgn hgr))
            refine ret_row rfl hg4 rfl Tryd.underlying27 rfl rec_size rfl ?_
            rw [(dec_err hv Hd.out He.out).1, (dec_err hv Hd.out He.out).2]
            exact ⟨none, 0, rfl, own_nil _ _ _ _, HB⟩
      · rw [if_pos h0] at hfr
        have z1 := int_bne_true h0
        have hd2 := hdec.trans (decN_err hn0 hne (by rw [hfr]) h0)
        have q : readEnd p (u, k, er) = 0 := if_neg h0
        rw [q] at cu
        have Cu := Lib.hid cu
        have Hd := Lib.hid hd2
        have He := Lib.hid h0
        clear hfr hdec hne cu hu ht q hd2 hs h0
        go_wp2_with (first
          | (go_at_call 69; (with_reducible refine (Cu.out _ (hd.next HB)).mono ?_); rintro e w1 ⟨rfl, rfl⟩)
          | ((with_reducible refine gate_store (p := 4) rfl ?_); refine ev_store_row (cs := Rec.zero.cells none 0) rfl rfl rfl hg4 rfl rfl rec_size rfl (cells_one _ _ _) ?_; intro W1 hgn hgr; replace hg6 := hg6.grown hgr (by intro e; injection e with e; omega); replace oA := oA.kept hgr (.inr (own_blk_ne oA hg4 (by decide))); replace HB := HB.grown hgr (by have := HB.size; omega) (by intro k e; injection e with e; omega); replace hg4 := hgn; replace hcg4 := hg4.cell; replace hfg4 := hg4.frozen; replace hcg6 := hg6.cell; replace hfg6 := hg6.frozen; clear hgn hgr))
        refine ret_row rfl hg4 rfl Tryd.underlying27 rfl rec_size rfl ?_
        rw [(dec_err hv Hd.out He.out).1, (dec_err hv Hd.out He.out).2]
        exact ⟨none, 0, rfl, own_nil _ _ _ _, HB⟩
    · have t3 : decide ((p : Int) < (l.length : Int)) = false := by rw [decide_eq_false_iff_not]; omega
      have t3' : decide (p < l.length) = false := by rw [decide_eq_false_iff_not]; exact hlt
      have hd2 := dec_end hv (hdec.trans (decN_end (List.drop_eq_nil_of_le (by omega))))
      have cc := fun w => check_calls r A6 c6 hf w
      clear hdec
      by_cases h0 : r.chk = 0
      · rw [if_pos h0, h0] at hd2
        rw [h0] at cc
        have Hd := Lib.hid hd2
        have Cc := Lib.hid cc
        clear cc h0 hd2
        go_wp2_with (first
          | ((with_reducible refine gate_dst (N := 66) rfl ?_); refine wpList_load_row rfl _ _ rfl g6 rfl _ _ (0, 0) _ hg6 Tryd.underlying27 rfl rec_size ?_)
          | (go_at_call 52; (with_reducible refine (Cc.out _ (HT.out.next HB) (own_rb oA)).mono ?_); rintro e W1 ⟨rfl, hb⟩; have hgr := grown_of_below hb; replace hg4 := hg4.grown hgr (by simp); replace hg6 := hg6.grown hgr (by simp); replace oA := oA.kept hgr (by cases Value.ownBlock _ <;> simp); replace HB := HB.grown hgr (by have := HB.size; omega) (by simp); replace hcg4 := hg4.cell; replace hfg4 := hg4.frozen; replace hcg6 := hg6.cell; replace hfg6 := hg6.frozen; clear hb hgr)
          | ((with_reducible refine gate_dst (N := 72) rfl ?_); refine wpList_load_row rfl _ _ rfl g6 rfl _ _ (0, 0) _ hg6 Tryd.underlying27 rfl rec_size ?_)
          | ((with_reducible refine gate_store (p := 4) rfl ?_); refine ev_store_row (cs := r.cells A6 c6) rfl rfl rfl hg4 rfl rfl rec_size rfl (cells_one _ _ _) ?_; intro W2 hgn hgr; replace hg6 := hg6.grown hgr (by intro e; injection e with e; omega); replace oA := oA.kept hgr (.inr (own_blk_ne oA hg4 (by decide))); replace HB := HB.grown hgr (by have := HB.size; omega) (by intro k e; injection e with e; omega); replace hg4 := hgn; replace hcg4 := hg4.cell; replace hfg4 := hg4.frozen; replace hcg6 := hg6.cell; replace hfg6 := hg6.frozen; clear hgn hgr))
        refine ret_row rfl hg4 rfl Tryd.underlying27 rfl rec_size rfl ?_
        rw [Hd.out.1, Hd.out.2]
        exact ⟨A6, c6, rfl, oA, HB⟩
      · rw [if_neg h0] at hd2
        have z1 := int_bne_true h0
        generalize r.chk = er at cc z1 hd2
        have Hd := Lib.hid hd2
        have Cc := Lib.hid cc
        clear cc h0 hd2
        go_wp2_with (first
          | ((with_reducible refine gate_dst (N := 66) rfl ?_); refine wpList_load_row rfl _ _ rfl g6 rfl _ _ (0, 0) _ hg6 Tryd.underlying27 rfl rec_size ?_)
          | (go_at_call 52; (with_reducible refine (Cc.out _ (HT.out.next HB) (own_rb oA)).mono ?_); rintro e W1 ⟨rfl, hb⟩; have hgr := grown_of_below hb; replace hg4 := hg4.grown hgr (by simp); replace hg6 := hg6.grown hgr (by simp); replace oA := oA.kept hgr (by cases Value.ownBlock _ <;> simp); replace HB := HB.grown hgr (by have := HB.size; omega) (by simp); replace hcg4 := hg4.cell; replace hfg4 := hg4.frozen; replace hcg6 := hg6.cell; replace hfg6 := hg6.frozen; clear hb hgr)
          | ((with_reducible refine gate_store (p := 4) rfl ?_); refine ev_store_row (cs := Rec.zero.cells none 0) rfl rfl rfl hg4 rfl rfl rec_size rfl (cells_one _ _ _) ?_; intro W2 hgn hgr; replace hg6 := hg6.grown hgr (by intro e; injection e with e; omega); replace oA := oA.kept hgr (.inr (own_blk_ne oA hg4 (by decide))); replace HB := HB.grown hgr (by have := HB.size; omega) (by intro k e; injection e with e; omega); replace hg4 := hgn; replace hcg4 := hg4.cell; replace hfg4 := hg4.frozen; replace hcg6 := hg6.cell; replace hfg6 := hg6.frozen; clear hgn hgr))
        refine ret_row rfl hg4 rfl Tryd.underlying27 rfl rec_size rfl ?_
        rw [Hd.out.1, Hd.out.2]
        exact ⟨none, 0, rfl, own_nil _ _ _ _, HB⟩
end Go.Proofs.YtikodgaomhmbmaaDoor
