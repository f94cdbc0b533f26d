/-
  The walk of wire.ReadUint, for all bytes and every place within them.
-/
import Derived.Test.YtjhiohjpkdjkoaaDoorW6
set_option linter.unusedVariables false
set_option linter.unusedSimpArgs false
namespace Go.Proofs.YtjhiohjpkdjkoaaDoor
open Go.RowKit

theorem and_127 : ∀ n < 256, bits .and .u8 ((n : Nat) : Int) 127 = ((n % 128 : Nat) : Int) := by decide +kernel
theorem or_u64 (a b : Nat) (ha : a < 18446744073709551616) (hb : b < 18446744073709551616) : bits .or .u64 (a : Int) (b : Int) = ((a ||| b : Nat) : Int) := by
  have hx : a ||| b < 2 ^ 64 := Nat.or_lt_two_pow (by omega) (by omega)
  have h1 : (BitVec.ofInt 64 (a : Int)).toNat = a := by
    rw [BitVec.ofInt_natCast, BitVec.toNat_ofNat]; exact Nat.mod_eq_of_lt (by omega)
  have h2 : (BitVec.ofInt 64 (b : Int)).toNat = b := by
    rw [BitVec.ofInt_natCast, BitVec.toNat_ofNat]; exact Nat.mod_eq_of_lt (by omega)
  show IntKind.u64.wrap ((BitVec.ofInt 64 (a : Int) ||| BitVec.ofInt 64 (b : Int)).toNat : Int) = _
  rw [BitVec.toNat_or, h1, h2, IntKind.wrap_u64]
  omega
/-- A number out of bytes: its value, how many bytes it takes, the error. -/
def readL : Nat → Nat → List UInt8 → Nat × Nat × Int
  | _, _, [] => (0, 0, 10)
  | i, v, b :: r => if i = 9 ∧ 1 < b.toNat then (0, 0, 12) else if 128 ≤ b.toNat then readL (i + 1) (v + b.toNat % 128 * 2 ^ (7 * i)) r
    else if b.toNat = 0 ∧ 0 < i then (0, 0, 11) else (v + b.toNat % 128 * 2 ^ (7 * i), i + 1, 0)
theorem drop_cons {l : List UInt8} {k : Nat} (h : k < l.length) : l.drop k = l[k] :: l.drop (k + 1) := List.drop_eq_getElem_cons h
theorem pow7 {i : Nat} (hi : i ≤ 8) : 2 ^ (7 * i) ≤ 72057594037927936 := by
  have : 2 ^ (7 * i) ≤ 2 ^ 56 := Nat.pow_le_pow_right (by decide) (by omega)
  omega
/-- One byte more. -/
theorem or_step {i v n : Nat} (hi : i ≤ 9) (hv : v < 2 ^ (7 * i)) (hn : n < 128) (h9 : i = 9 → n ≤ 1) :
    bits .or .u64 (v : Int) (IntKind.u64.wrap ((n : Int) * 2 ^ (7 * i))) = ((v + n * 2 ^ (7 * i) : Nat) : Int) ∧ v + n * 2 ^ (7 * i) < 18446744073709551616 := by
  have hb : n * 2 ^ (7 * i) < 18446744073709551616 ∧ v + n * 2 ^ (7 * i) < 18446744073709551616 := by
    by_cases h : i = 9
    · subst h
      have := h9 rfl
      have e : 2 ^ (7 * 9) = 9223372036854775808 := by decide
      rw [e] at hv ⊢
      obtain rfl | rfl : n = 0 ∨ n = 1 := by omega
      · omega
      · omega
    · have h8 := pow7 (i := i) (by omega)
      have : n * 2 ^ (7 * i) ≤ 127 * 72057594037927936 := Nat.mul_le_mul (by omega) h8
      omega
  refine ⟨?_, hb.2⟩
  have e : IntKind.u64.wrap ((n : Int) * 2 ^ (7 * i)) = ((n * 2 ^ (7 * i) : Nat) : Int) := by
    have e1 : (n : Int) * 2 ^ (7 * i) = ((n * 2 ^ (7 * i) : Nat) : Int) := by simp
    rw [e1, IntKind.wrap_u64]
    omega
  rw [e, or_u64 _ _ (by omega) hb.1]
  congr 1
  rw [Nat.or_comm, Nat.mul_comm, ← Nat.two_pow_add_eq_or_of_lt hv, Nat.add_comm]
theorem shl_run {P : Program} (i : Nat) (hi : i ≤ 9) (x : Int) (w : World) : (Op.shift .shl .u64 x .u64 (7 * (i : Int))).run P w = .ok (.int .u64 (IntKind.u64.wrap (x * 2 ^ (7 * i)))) w := by
  have h64 : IntKind.u64.bits = 64 := rfl
  have e : min (7 * (i : Int)).toNat IntKind.u64.bits = 7 * i := by rw [h64]; omega
  unfold Op.shift
  rw [if_neg (by omega)]
  simp [e]

/-- What ReadUint says at p. -/
def readEnd (p : Nat) (x : Nat × Nat × Int) : Int := if x.2.2 = 0 then ((p + x.2.1 : Nat) : Int) else 0
set_option maxHeartbeats 4000000 in
set_option maxRecDepth 100000 in
theorem readUint_calls (l : List UInt8) (A : Option Addr) (c : Nat) (p : Nat) (hp : p ≤ l.length) (hl : l.length ≤ 140737488351232) (w : World) (hd : RB w A l) :
    Calls Tryd.prog 95 #[.slice A l.length c, .int .i64 p] w fun e w' => e = .returned (.tuple #[.int .u64 (readL 0 0 (l.drop p)).1, .int .i64 (readEnd p (readL 0 0 (l.drop p))), .int .i64 (readL 0 0 (l.drop p)).2.2]) ∧ w = w' := by
  have t1 : decide ((p : Int) < 0) = false := by simp
  have t2 : decide ((l.length : Int) < (p : Int)) = false := by simp; omega
  go_enter Tryd.func95, Tryd.ntmps95
  go_wp2
  go_loopg [7, 8] 10 (fun n v7 v8 wr => ∃ (i : Nat) (v : Nat), n + i = 10 ∧ v7 = .int .u64 v ∧ v8 = .int .i64 i ∧ Aside (i ≤ 9 ∧ v < 2 ^ (7 * i) ∧ readL 0 0 (l.drop p) = readL i v (l.drop (p + i)) ∧ w = wr))
  case atStart => exact ⟨0, 0, by omega, rfl, rfl, ⟨by omega, by simp, rfl, rfl⟩⟩
  case round =>
    obtain ⟨i, v, hn, rfl, rfl, HA⟩ := hrel
    obtain ⟨hi9, hv, hread, rfl⟩ := HA.out
    clear HA
    by_cases hlt : p + i < l.length
    · have t3 : decide ((l.length : Int) ≤ (p : Int) + (i : Int)) = false := by rw [decide_eq_false_iff_not]; omega
      obtain ⟨ad, rfl, hc⟩ := hd.get hlt
      rw [drop_cons hlt] at hread
      have hb := l[p + i].toNat_lt
      generalize l[p + i] = b at hc hb hread
      have ta : bits .and .u8 (b.toNat : Int) 127 = ((b.toNat % 128 : Nat) : Int) := and_127 _ hb
      have hn1 : b.toNat % 128 < 128 := by omega
      have ts := fun x w => shl_run (P := Tryd.prog) i hi9 x w
      by_cases hbad : i = 9 ∧ 1 < b.toNat
      · have e : readL 0 0 (l.drop p) = (0, 0, 12) := by rw [hread]; simp only [readL]; rw [if_pos hbad]
        have E := Lib.hid e
        have t4 : ((i : Int) == 9) = true := by simp [hbad.1]
        have t5 : decide ((1 : Int) < (b.toNat : Int)) = true := by rw [decide_eq_true_eq]; omega
        have t5' : decide (1 < b.toNat) = true := by rw [decide_eq_true_eq]; omega
        clear hread e hv hbad
        go_wp2
        go_ret3
        exact ⟨by rw [E.out]; rfl, rfl⟩
      have h9 : i = 9 → b.toNat % 128 ≤ 1 := fun h => by
        have : ¬ 1 < b.toNat := fun h' => hbad ⟨h, h'⟩
        omega
      obtain ⟨s1, s2⟩ := or_step hi9 hv hn1 h9
      have tw : IntKind.u64.wrap ((b.toNat % 128 : Nat) : Int) = ((b.toNat % 128 : Nat) : Int) := by rw [IntKind.wrap_u64]; omega
      have hvn : v + b.toNat % 128 * 2 ^ (7 * i) < 2 ^ (7 * (i + 1)) := by
        have e1 : 2 ^ (7 * (i + 1)) = 128 * 2 ^ (7 * i) := by rw [show 7 * (i + 1) = 7 * i + 7 by omega, Nat.pow_add]; omega
        have : b.toNat % 128 * 2 ^ (7 * i) ≤ 127 * 2 ^ (7 * i) := Nat.mul_le_mul_right _ (by omega)
        omega
      simp only [readL] at hread
      rw [if_neg hbad] at hread
      generalize hV : v + b.toNat % 128 * 2 ^ (7 * i) = V at s1 s2 hvn hread
      generalize hN : b.toNat % 128 = n at ta tw s1
      have HV := Lib.hid hV
      have HN := Lib.hid hN
      have tail : ∀ b9 : Bool, ((i : Int) == 9) = b9 → (b9 = true → decide ((1 : Int) < (b.toNat : Int)) = false ∧ decide (1 < b.toNat) = false) := fun b9 h1 h2 => by
        subst h2
        have : i = 9 := by simp at h1; omega
        have : ¬ 1 < b.toNat := fun h' => hbad ⟨this, h'⟩
        constructor <;> (rw [decide_eq_false_iff_not]; omega)
      by_cases h128 : 128 ≤ b.toNat
      · have t6 : decide ((128 : Int) ≤ (b.toNat : Int)) = true := by rw [decide_eq_true_eq]; omega
        have t6' : decide (128 ≤ b.toNat) = true := by rw [decide_eq_true_eq]; exact h128
        have hni : i ≠ 9 := fun h => hbad ⟨h, by omega⟩
        have t4 : ((i : Int) == 9) = false := int_beq_false (by omega)
        rw [if_pos h128] at hread
        have hread2 : readL 0 0 (l.drop p) = readL (i + 1) V (l.drop (p + (i + 1))) := by rw [hread, Nat.add_assoc]
        have Hread := Lib.hid hread2
        have Hvn := Lib.hid hvn
        have hi8 : i + 1 ≤ 9 := by omega
        clear hread hread2 hvn hbad h128 hni h9 tail hv
        go_wp2
        go_roundg (gk - 1)
        case measure => omega
        case rel => exact ⟨i + 1, V, by omega, rfl, by go_num, ⟨hi8, Hvn.out, Hread.out, rfl⟩⟩
      have t6 : decide ((128 : Int) ≤ (b.toNat : Int)) = false := by rw [decide_eq_false_iff_not]; omega
      have t6' : decide (128 ≤ b.toNat) = false := by rw [decide_eq_false_iff_not]; exact h128
      rw [if_neg h128] at hread
      by_cases hz : b.toNat = 0 ∧ 0 < i
      · have t7 : ((b.toNat : Int) == 0) = true := by simp [hz.1]
        have t8 : decide ((0 : Int) < (i : Int)) = true := by rw [decide_eq_true_eq]; omega
        have t8' : decide (0 < i) = true := by rw [decide_eq_true_eq]; exact hz.2
        rw [if_pos hz] at hread
        have E := Lib.hid hread
        clear hread hvn hbad h128 h9 hv hz
        cases hb9 : ((i : Int) == 9)
        case' true => obtain ⟨u1, u2⟩ := tail true hb9 rfl
        all_goals
          clear tail
          go_wp2
          go_ret3
          exact ⟨by rw [E.out]; rfl, rfl⟩
      · rw [if_neg hz] at hread
        have E := Lib.hid hread
        have hz' : b.toNat = 0 → ¬ 0 < i := fun a b => hz ⟨a, b⟩
        clear hread hvn hbad h128 h9 hv hz
        cases hb9 : ((i : Int) == 9)
        case' true => obtain ⟨u1, u2⟩ := tail true hb9 rfl
        all_goals
          clear tail
          cases hz0 : ((b.toNat : Int) == 0)
        case' false.true =>
          have h0 : ¬ 0 < i := hz' (by simp at hz0; omega)
          have t8 : decide ((0 : Int) < (i : Int)) = false := by rw [decide_eq_false_iff_not]; omega
          have t8' : decide (0 < i) = false := by rw [decide_eq_false_iff_not]; exact h0
        case' true.true =>
          have h0 : ¬ 0 < i := hz' (by simp at hz0; omega)
          have t8 : decide ((0 : Int) < (i : Int)) = false := by rw [decide_eq_false_iff_not]; omega
          have t8' : decide (0 < i) = false := by rw [decide_eq_false_iff_not]; exact h0
        all_goals
          clear hz'
          go_wp2
          go_ret3
          exact ⟨by rw [E.out]; simp [readEnd, Int.add_assoc], rfl⟩
    · have t3 : decide ((l.length : Int) ≤ (p : Int) + (i : Int)) = true := by rw [decide_eq_true_eq]; omega
      have e : readL 0 0 (l.drop p) = (0, 0, 10) := by rw [hread, List.drop_eq_nil_of_le (by omega)]; rfl
      have E := Lib.hid e
      clear hread e hv
      go_wp2
      go_ret3
      exact ⟨by rw [E.out]; rfl, rfl⟩
end Go.Proofs.YtjhiohjpkdjkoaaDoor
