/-
  The law RecordFields: what the tables say, and the walk.
-/
import Derived.Test.YtikodgaomhmbmaaDoorF2
import Derived.Test.YtikodgaomhmbmaaDoorRows
set_option linter.unusedVariables false
set_option linter.unusedSimpArgs false
namespace Go.Proofs.YtikodgaomhmbmaaDoor
open Go.RowKit

/-- The tables, as numbers and strings. -/
def mays : List Nat := [2062, 14, 2062, 2062, 14, 2062, 6, 3366, 62, 2094, 2158, 62, 2094, 38, 3878, 62, 2094, 2286, 62, 2094, 166]
def rowsS : List ByteArray := [⟨#[97, 98, 99, 107]⟩, ⟨#[97, 98, 101, 104, 106, 107]⟩, ⟨#[97, 98, 101, 104, 105, 106, 107]⟩, ⟨#[97, 98, 99]⟩, ⟨#[97, 98, 99, 100, 101]⟩, ⟨#[97, 98, 99, 100, 101]⟩, ⟨#[97, 98, 99, 107]⟩, ⟨#[97, 98, 99, 101, 107]⟩, ⟨#[97, 98, 99, 101, 107]⟩,
  ⟨#[97, 98, 99, 107]⟩, ⟨#[97, 98, 99, 101, 102, 107]⟩, ⟨#[97, 98, 99, 101, 102, 103, 107]⟩, ⟨#[97, 98, 99]⟩, ⟨#[97, 98, 99, 100, 101]⟩, ⟨#[97, 98, 99, 100, 101]⟩, ⟨#[97, 98, 99, 107]⟩, ⟨#[97, 98, 99, 101, 107]⟩, ⟨#[97, 98, 99, 101, 107]⟩, ⟨#[97, 98]⟩, ⟨#[97, 98, 101]⟩, ⟨#[97, 98, 101, 103]⟩]
def maysL : List Value := mays.map fun (n : Nat) => .int .u16 (n : Int)
def rowsL : List Value := rowsS.map .string
theorem may_tab {w : World} (h : Go.Lib.VarReads Tryd.prog w "annals/record.may" Rows.laid_annals_record_may) : Tab w 0 maysL :=
  tab_of_reads (t := 113) 4 h (by kernel_rfl) (by kernel_rfl) (by kernel_rfl) maysL (by kernel_rfl) (by decide)
theorem rows_tab {w : World} (h : Go.Lib.VarReads Tryd.prog w "annals/annalsref3.rows" Rows.laid_annals_annalsref3_rows) : Tab w 2 rowsL :=
  tab_of_reads (t := 141) 4 h (by kernel_rfl) (by kernel_rfl) (by kernel_rfl) rowsL (by kernel_rfl) (by decide)

/-- The set of a version (from 0) and a kind (from 0). -/
def mayAt (p q : Nat) : Nat := mays.getD (p * 7 + q) 0
def rowAt (p q : Nat) : ByteArray := rowsS.getD (q * 3 + p) ⟨#[]⟩
theorem tables_agree : ∀ p < 3, ∀ q < 7, mayAt p q < 65536 ∧ tagsTo (mayAt p q) 12 = lettersTo (rowAt p q).data.toList (rowAt p q).size ∧ (rowAt p q).size ≤ 11 ∧ (∀ b ∈ (rowAt p q).data.toList, 97 ≤ b.toNat ∧ b.toNat ≤ 107) ∧
    maysL[p * 7 + q]? = some (.int .u16 (mayAt p q : Int)) ∧ rowsL[q * 3 + p]? = some (.string (rowAt p q)) := by
  intro p hp q hq
  obtain rfl | rfl | rfl : p = 0 ∨ p = 1 ∨ p = 2 := by omega
  all_goals obtain rfl | rfl | rfl | rfl | rfl | rfl | rfl : q = 0 ∨ q = 1 ∨ q = 2 ∨ q = 3 ∨ q = 4 ∨ q = 5 ∨ q = 6 := by omega
  all_goals exact ⟨by decide, by decide, by decide, by decide, rfl, rfl⟩
/-- The tags of any two numbers. -/
def fieldsOf (v k : Int) : List Nat := if 1 ≤ v ∧ v ≤ 3 ∧ 1 ≤ k ∧ k ≤ 7 then tagsTo (mayAt (v - 1).toNat (k - 1).toNat) 12 else []
theorem fieldsOf_len (v k : Int) : (fieldsOf v k).length ≤ 11 := by
  unfold fieldsOf
  split
  · exact tagsTo_len _ 12
  · simp
theorem fields_all {v k : Int} {l : List Nat} {n : Nat} (hl : fieldsOf v k = l) (hn : l.length = n) (w : World) (ht : Tab w 0 maysL) :
    Calls Tryd.prog 58 #[.int .i64 v, .int .i64 k] w fun e w' => ∃ A c, e = .returned (.slice A n c) ∧ w'.ownsRow w.heap.size 3 1 (.slice A n c) n (nats l) ∧ Below w.heap.size w w' := by
  subst hn
  subst hl
  by_cases h : 1 ≤ v ∧ v ≤ 3 ∧ 1 ≤ k ∧ k ≤ 7
  · obtain ⟨p, hp, rfl⟩ : ∃ p : Nat, p < 3 ∧ v = p + 1 := ⟨(v - 1).toNat, by omega, by omega⟩
    obtain ⟨q, hq, rfl⟩ : ∃ q : Nat, q < 7 ∧ k = q + 1 := ⟨(k - 1).toNat, by omega, by omega⟩
    obtain ⟨h1, h2, h3, h4, h5, h6⟩ := tables_agree p hp q hq
    have e : fieldsOf (p + 1) (q + 1) = tagsTo (mayAt p q) 12 := by
      unfold fieldsOf
      rw [if_pos h]
      congr 2 <;> omega
    rw [e]
    exact fields_calls p q _ hp hq h1 w ht.1 (ht.2 _ _ h5)
  · have e : fieldsOf v k = [] := if_neg h
    rw [e]
    refine (fields_out v k (by omega) w).mono fun e w' ⟨he, hb⟩ => ⟨none, 0, he, own_nil _ _ _ _, hb⟩
theorem refFields_all {v k : Int} {l : List Nat} {n : Nat} (hl : fieldsOf v k = l) (hn : l.length = n) (w : World) (ht : Tab w 2 rowsL) :
    Calls Tryd.prog 93 #[.int .i64 v, .int .i64 k] w fun e w' => ∃ A c, e = .returned (.slice A n c) ∧ w'.ownsRow w.heap.size 3 1 (.slice A n c) n (nats l) ∧ Below w.heap.size w w' := by
  subst hn
  subst hl
  by_cases h : 1 ≤ v ∧ v ≤ 3 ∧ 1 ≤ k ∧ k ≤ 7
  · obtain ⟨p, hp, rfl⟩ : ∃ p : Nat, p < 3 ∧ v = p + 1 := ⟨(v - 1).toNat, by omega, by omega⟩
    obtain ⟨q, hq, rfl⟩ : ∃ q : Nat, q < 7 ∧ k = q + 1 := ⟨(k - 1).toNat, by omega, by omega⟩
    obtain ⟨h1, h2, h3, h4, h5, h6⟩ := tables_agree p hp q hq
    have e : fieldsOf (p + 1) (q + 1) = lettersTo (rowAt p q).data.toList (rowAt p q).size := by
      rw [← h2]
      unfold fieldsOf
      rw [if_pos h]
      congr 2 <;> omega
    rw [e]
    exact refFields_calls p q _ hp hq h4 h3 w (ht.2 _ _ h6)
  · have e : fieldsOf v k = [] := if_neg h
    rw [e]
    refine (refFields_out v k (by omega) w).mono fun e w' ⟨he, hb⟩ => ⟨none, 0, he, own_nil _ _ _ _, hb⟩
theorem sameNats_self {l : List Nat} {n : Nat} (hn : l.length = n) (A B : Option Addr) (c d : Nat) (w : World) (ha : Reads w w.heap.size 1 A n (nats l)) (hb : Reads w w.heap.size 1 B n (nats l)) (hs : n ≤ 11) :
    Calls Tryd.prog 59 #[.slice A n c, .slice B n d] w fun e w' => e = .returned (.bool true) ∧ Below w.heap.size w w' := by
  subst hn
  exact (sameNats_calls l l A B c d w ha hb (by omega) (by omega)).mono fun _ _ ⟨he, hb⟩ => ⟨by simpa using he, hb⟩

end Go.Proofs.YtikodgaomhmbmaaDoor
