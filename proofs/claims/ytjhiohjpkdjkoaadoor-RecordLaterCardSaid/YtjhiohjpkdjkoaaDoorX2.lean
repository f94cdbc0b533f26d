/-
  The walk of wire.ReadInt.
-/
import Derived.Test.YtjhiohjpkdjkoaaDoorX1
set_option linter.unusedVariables false
set_option linter.unusedSimpArgs false
namespace Go.Proofs.YtjhiohjpkdjkoaaDoor
open Go.RowKit

theorem readL_lt : ∀ (l : List UInt8) (i v : Nat), i ≤ 9 → v < 2 ^ (7 * i) → (readL i v l).1 < 18446744073709551616
  | [], i, v, _, _ => by simp [readL]
  | b :: r, i, v, hi, hv => by
    simp only [readL]
    split
    · simp
    · rename_i hbad
      have hn : b.toNat % 128 < 128 := by omega
      have h9 : i = 9 → b.toNat % 128 ≤ 1 := fun h => by
        have : ¬ 1 < b.toNat := fun h' => hbad ⟨h, h'⟩
        omega
      have hs := (or_step hi hv hn h9).2
      split
      · rename_i h128
        have hni : i ≠ 9 := fun h => hbad ⟨h, by omega⟩
        refine readL_lt r (i + 1) _ (by omega) ?_
        have e1 : 2 ^ (7 * (i + 1)) = 128 * 2 ^ (7 * i) := by rw [show 7 * (i + 1) = 7 * i + 7 by omega, Nat.pow_add]; omega
        have : b.toNat % 128 * 2 ^ (7 * i) ≤ 127 * 2 ^ (7 * i) := Nat.mul_le_mul_right _ (by omega)
        omega
      · split
        · simp
        · exact hs
/-- The signed number that wire.ReadInt makes of a number. -/
def zag (u : Nat) : Int := bits .xor .i64 ((u : Int) / 2) (wrap64 (-wrap64 (bits .and .u64 (u : Int) 1)))
set_option maxHeartbeats 1000000 in
set_option maxRecDepth 100000 in
theorem readInt_calls (l : List UInt8) (A : Option Addr) (c : Nat) (p : Nat) (hp : p ≤ l.length) (hl : l.length ≤ 140737488351232) (w : World) (hd : RB w A l) :
    Calls Tryd.prog 112 #[.slice A l.length c, .int .i64 p] w fun e w' => e = .returned (.tuple #[.int .i64 (if (readL 0 0 (l.drop p)).2.2 = 0 then zag (readL 0 0 (l.drop p)).1 else 0), .int .i64 (readEnd p (readL 0 0 (l.drop p))), .int .i64 (readL 0 0 (l.drop p)).2.2]) ∧ w = w' := by
  have cu := readUint_calls l A c p hp hl w hd
  have hu := readL_lt (l.drop p) 0 0 (by omega) (by simp)
  generalize readL 0 0 (l.drop p) = x at cu hu
  obtain ⟨u, k, e⟩ := x
  have hu' : u < 18446744073709551616 := hu
  by_cases h0 : e = 0
  · subst h0
    have q : readEnd p (u, k, 0) = ((p + k : Nat) : Int) := rfl
    rw [q] at cu ⊢
    have Cu := Lib.hid cu
    clear cu hu q hd
    go_enter Tryd.func112, Tryd.ntmps112
    go_wp2_with (first
      | (go_at_call 95; (with_reducible refine Cu.out.mono ?_); rintro e w1 ⟨rfl, rfl⟩))
    go_ret3
    exact ⟨rfl, rfl⟩
  · have t1 := int_bne_true h0
    have q : readEnd p (u, k, e) = 0 := if_neg h0
    have g : (if (u, k, e).2.2 = 0 then zag (u, k, e).1 else 0) = 0 := if_neg h0
    rw [q] at cu ⊢
    rw [g]
    have Cu := Lib.hid cu
    clear cu hu q hd g h0
    go_enter Tryd.func112, Tryd.ntmps112
    go_wp2_with (first
      | (go_at_call 95; (with_reducible refine Cu.out.mono ?_); rintro e w1 ⟨rfl, rfl⟩))
    go_ret3
    exact ⟨rfl, rfl⟩
end Go.Proofs.YtjhiohjpkdjkoaaDoor
