/-
  Numbers and byte strings: what is written is read again, and what is read was written so; plain.
-/
import Derived.Test.YtjhiohjpkdjkoaaDoorX4
set_option linter.unusedVariables false
set_option linter.unusedSimpArgs false
namespace Go.Proofs.YtjhiohjpkdjkoaaDoor
open Go.RowKit

theorem wrap_i64_nat (u : Nat) (h : u ≤ 9223372036854775807) : IntKind.i64.wrap (u : Int) = u := by rw [IntKind.wrap_i64]; omega
theorem wrap64_nat (u : Nat) (h : u ≤ 9223372036854775807) : wrap64 (u : Int) = u := by unfold wrap64; omega
theorem pow_next (i : Nat) : 2 ^ (7 * (i + 1)) = 128 * 2 ^ (7 * i) := by
  rw [show 7 * (i + 1) = 7 * i + 7 by omega, Nat.pow_add]
  omega
theorem three_parts (v m x P : Nat) : v + m * P + x * (128 * P) = v + (m + 128 * x) * P := by
  rw [Nat.add_mul, ← Nat.mul_assoc, Nat.mul_comm x 128]
  omega
/-- What is read was written so. -/
theorem readL_back : ∀ (l : List UInt8) (i v : Nat), (readL i v l).2.2 = 0 →
    ∃ x, (readL i v l).1 = v + x * 2 ^ (7 * i) ∧ (readL i v l).2.1 = i + (uintL x).length ∧ l = uintL x ++ l.drop (uintL x).length ∧ (0 < i → 0 < x)
  | [], i, v, h => by simp [readL] at h
  | b :: r, i, v, h => by
    have hb := b.toNat_lt
    simp only [readL] at h ⊢
    split at h
    · simp at h
    · rename_i h1
      rw [if_neg h1]
      split at h
      · rename_i h2
        rw [if_pos h2]
        obtain ⟨x, e1, e2, e3, e4⟩ := readL_back r (i + 1) _ h
        have hx := e4 (by omega)
        have hu : uintL (b.toNat % 128 + 128 * x) = b :: uintL x := by
          rw [uintL_more (by omega)]
          have a1 : (b.toNat % 128 + 128 * x) % 128 + 128 = b.toNat := by omega
          have a2 : (b.toNat % 128 + 128 * x) / 128 = x := by omega
          rw [a1, a2, UInt8.ofNat_toNat]
        refine ⟨b.toNat % 128 + 128 * x, ?_, ?_, ?_, fun _ => by omega⟩
        · rw [e1, pow_next, three_parts]
        · rw [e2, hu, List.length_cons]
          omega
        · rw [hu, List.length_cons, List.drop_succ_cons, List.cons_append, ← e3]
      · rename_i h2
        rw [if_neg h2]
        split at h
        · simp at h
        · rename_i h3
          rw [if_neg h3]
          have a1 : b.toNat % 128 = b.toNat := by omega
          have hu : uintL b.toNat = [b] := by rw [uintL_last (by omega), UInt8.ofNat_toNat]
          refine ⟨b.toNat, ?_, ?_, ?_, fun hi => ?_⟩
          · rw [a1]
          · rw [hu]
            rfl
          · rw [hu]
            rfl
          · rcases Nat.eq_zero_or_pos b.toNat with h0 | h0
            · exact absurd ⟨h0, hi⟩ h3
            · exact h0
/-- What is written is read. -/
theorem readL_uint : ∀ (x i v : Nat) (rest : List UInt8), i ≤ 9 → x * 2 ^ (7 * i) < 18446744073709551616 → (0 < i → 0 < x) →
    readL i v (uintL x ++ rest) = (v + x * 2 ^ (7 * i), i + (uintL x).length, 0) := by
  intro x
  induction x using Nat.strongRecOn with
  | _ x ih =>
    intro i v rest hi hx h0
    by_cases h : x < 128
    · rw [uintL_last h]
      have hn : (UInt8.ofNat x).toNat = x := by rw [UInt8.toNat_ofNat']; exact Nat.mod_eq_of_lt (by omega)
      simp only [List.cons_append, List.nil_append, readL, hn]
      have hbad : ¬ (i = 9 ∧ 1 < x) := by
        rintro ⟨rfl, h1⟩
        have : 2 * 2 ^ (7 * 9) ≤ x * 2 ^ (7 * 9) := Nat.mul_le_mul_right _ h1
        have e : 2 * 2 ^ (7 * 9) = 18446744073709551616 := by decide
        omega
      rw [if_neg hbad, if_neg (by omega), if_neg (by rintro ⟨a, b⟩; have := h0 b; omega), Nat.mod_eq_of_lt h]
      rfl
    · rw [uintL_more h]
      have hn : (UInt8.ofNat (x % 128 + 128)).toNat = x % 128 + 128 := by rw [UInt8.toNat_ofNat']; exact Nat.mod_eq_of_lt (by omega)
      have hi9 : i ≠ 9 := by
        rintro rfl
        have : 128 * 2 ^ (7 * 9) ≤ x * 2 ^ (7 * 9) := Nat.mul_le_mul_right _ (by omega)
        have e : 128 * 2 ^ (7 * 9) = 1180591620717411303424 := by decide
        omega
      simp only [List.cons_append, readL, hn]
      have hm : (x % 128 + 128) % 128 = x % 128 := by omega
      have hd : x % 128 + 128 * (x / 128) = x := by omega
      rw [if_neg (by omega), if_pos (by omega), hm]
      have hle : x / 128 * 2 ^ (7 * (i + 1)) ≤ x * 2 ^ (7 * i) := by
        rw [pow_next, ← Nat.mul_assoc]
        exact Nat.mul_le_mul_right _ (by omega)
      rw [ih (x / 128) (by omega) (i + 1) _ rest (by omega) (by omega) (fun _ => by omega), pow_next, three_parts, hd, List.length_cons]
      congr 2
      omega
theorem readL_0 {s : List UInt8} (h : (readL 0 0 s).2.2 = 0) : s = uintL (readL 0 0 s).1 ++ s.drop (readL 0 0 s).2.1 ∧ (readL 0 0 s).2.1 = (uintL (readL 0 0 s).1).length := by
  obtain ⟨x, e1, e2, e3, _⟩ := readL_back s 0 0 h
  have ex : (readL 0 0 s).1 = x := by rw [e1]; simp
  have ek : (readL 0 0 s).2.1 = (uintL x).length := by rw [e2]; simp
  rw [ex, ek]
  exact ⟨e3, rfl⟩
theorem readL_of {x : Nat} (hx : x < 18446744073709551616) (rest : List UInt8) : readL 0 0 (uintL x ++ rest) = (x, (uintL x).length, 0) := by
  have := readL_uint x 0 0 rest (by omega) (by simpa using hx) (by omega)
  simpa using this

/-! ### Signed numbers -/
theorem zero64 : BitVec.ofInt 64 0 = 0#64 := by decide
theorem ones64 : BitVec.ofInt 64 18446744073709551615 = BitVec.allOnes 64 := by decide
theorem ones64' : BitVec.ofInt 64 (-1) = BitVec.allOnes 64 := by decide
theorem zig_eq {v : Int} (h : -9223372036854775808 ≤ v ∧ v ≤ 9223372036854775807) : zig v = if 0 ≤ v then 2 * v else -2 * v - 1 := by
  have e : zig v = IntKind.u64.wrap (((BitVec.ofInt 64 (IntKind.u64.wrap (IntKind.u64.wrap v * 2)) ^^^ BitVec.ofInt 64 (IntKind.u64.wrap (v / 9223372036854775808))).toNat : Nat) : Int) := rfl
  rw [e]
  split
  · rename_i h0
    have e1 : v / 9223372036854775808 = 0 := by omega
    have e2 : IntKind.u64.wrap (IntKind.u64.wrap v * 2) = 2 * v := by rw [IntKind.wrap_u64, IntKind.wrap_u64]; omega
    have e3 : IntKind.u64.wrap 0 = 0 := rfl
    rw [e1, e2, e3, zero64, BitVec.xor_zero, BitVec.toNat_ofInt, IntKind.wrap_u64]
    omega
  · rename_i h0
    have e1 : v / 9223372036854775808 = -1 := by omega
    have e2 : IntKind.u64.wrap (IntKind.u64.wrap v * 2) = 2 * v + 18446744073709551616 := by rw [IntKind.wrap_u64, IntKind.wrap_u64]; omega
    have e3 : IntKind.u64.wrap (-1) = 18446744073709551615 := rfl
    rw [e1, e2, e3, ones64, BitVec.xor_allOnes, BitVec.toNat_not, BitVec.toNat_ofInt, IntKind.wrap_u64]
    omega
theorem zag_eq {u : Nat} (h : u < 18446744073709551616) : zag u = if u % 2 = 0 then ((u / 2 : Nat) : Int) else -((u / 2 : Nat) : Int) - 1 := by
  have ea : bits .and .u64 (u : Int) 1 = ((u % 2 : Nat) : Int) := by
    have e : bits .and .u64 (u : Int) 1 = IntKind.u64.wrap (((BitVec.ofInt 64 (u : Int) &&& BitVec.ofInt 64 1).toNat : Nat) : Int) := rfl
    have h1 : (BitVec.ofInt 64 (u : Int)).toNat = u := by
      rw [BitVec.ofInt_natCast, BitVec.toNat_ofNat]; exact Nat.mod_eq_of_lt (by omega)
    have h2 : (BitVec.ofInt 64 1).toNat = 1 := by decide
    rw [e, BitVec.toNat_and, h1, h2, Nat.and_one_is_mod, IntKind.wrap_u64]
    omega
  have e : zag u = IntKind.i64.wrap (((BitVec.ofInt 64 ((u : Int) / 2) ^^^ BitVec.ofInt 64 (wrap64 (-wrap64 (bits .and .u64 (u : Int) 1)))).toNat : Nat) : Int) := rfl
  rw [e, ea]
  split
  · rename_i h0
    have e1 : wrap64 (-wrap64 ((u % 2 : Nat) : Int)) = 0 := by rw [h0]; unfold wrap64; omega
    rw [e1, zero64, BitVec.xor_zero, BitVec.toNat_ofInt, IntKind.wrap_i64]
    omega
  · rename_i h0
    have h1 : u % 2 = 1 := by omega
    have e1 : wrap64 (-wrap64 ((u % 2 : Nat) : Int)) = -1 := by rw [h1]; unfold wrap64; omega
    rw [e1, ones64', BitVec.xor_allOnes, BitVec.toNat_not, BitVec.toNat_ofInt, IntKind.wrap_i64]
    omega
theorem zag_zig {v : Int} (h : -9223372036854775808 ≤ v ∧ v ≤ 9223372036854775807) : zag (zig v).toNat = v := by
  obtain ⟨z1, z2⟩ := zig_range v
  rw [zag_eq (by omega), zig_eq h]
  split <;> split <;> omega
theorem zag_range (u : Nat) : -9223372036854775808 ≤ zag u ∧ zag u ≤ 9223372036854775807 := by
  have e : zag u = IntKind.i64.wrap (((BitVec.ofInt 64 ((u : Int) / 2) ^^^ BitVec.ofInt 64 (wrap64 (-wrap64 (bits .and .u64 (u : Int) 1)))).toNat : Nat) : Int) := rfl
  rw [e, IntKind.wrap_i64]
  omega
theorem zig_zag {u : Nat} (h : u < 18446744073709551616) : (zig (zag u)).toNat = u := by
  rw [zig_eq (zag_range u), zag_eq h]
  split <;> split <;> omega

/-! ### Byte strings -/
theorem readB_0 {max : Nat} {s : List UInt8} (h : (readB max s).2.2 = 0) : s = bytesL (readB max s).1 ++ s.drop (readB max s).2.1 ∧ (readB max s).2.1 = (bytesL (readB max s).1).length ∧ (readB max s).1.length ≤ max := by
  have hr : readB max s = _ := rfl
  conv at hr => rhs; unfold readB
  by_cases h0 : (readL 0 0 s).2.2 = 0
  · rw [if_neg (by simp [h0])] at hr
    by_cases h1 : max < (readL 0 0 s).1
    · rw [if_pos h1] at hr
      rw [hr] at h
      simp at h
    rw [if_neg h1] at hr
    by_cases h2 : s.length - (readL 0 0 s).2.1 < (readL 0 0 s).1
    · rw [if_pos h2] at hr
      rw [hr] at h
      simp at h
    rw [if_neg h2] at hr
    obtain ⟨e1, e2⟩ := readL_0 h0
    have hl : ((s.drop (readL 0 0 s).2.1).take (readL 0 0 s).1).length = (readL 0 0 s).1 := by rw [List.length_take, List.length_drop]; omega
    rw [hr]
    simp only
    unfold bytesL
    rw [hl]
    refine ⟨?_, by rw [List.length_append, hl, e2], by omega⟩
    rw [List.append_assoc, ← List.drop_drop, List.take_append_drop]
    exact e1
  · rw [if_pos h0] at hr
    rw [hr] at h
    exact absurd h h0
theorem readB_of {max : Nat} {s : List UInt8} (hs : s.length ≤ max) (hm : max < 18446744073709551616) (rest : List UInt8) : readB max (bytesL s ++ rest) = (s, (bytesL s).length, 0) := by
  unfold readB bytesL
  rw [List.append_assoc, readL_of (by omega)]
  simp only
  rw [if_neg (by simp), if_neg (by omega), if_neg (by simp only [List.length_append]; omega), List.drop_left, List.take_left, List.length_append]
end Go.Proofs.YtjhiohjpkdjkoaaDoor
