/-
  The walk of wire.ReadBytes.
-/
import Derived.Test.YtjhiohjpkdjkoaaDoorX3
set_option linter.unusedVariables false
set_option linter.unusedSimpArgs false
namespace Go.Proofs.YtjhiohjpkdjkoaaDoor
open Go.RowKit

/-- A byte string of at most max bytes: itself, how many bytes it takes, the error. -/
def readB (max : Nat) (s : List UInt8) : List UInt8 × Nat × Int :=
  if (readL 0 0 s).2.2 ≠ 0 then ([], 0, (readL 0 0 s).2.2)
  else if max < (readL 0 0 s).1 then ([], 0, 13)
  else if s.length - (readL 0 0 s).2.1 < (readL 0 0 s).1 then ([], 0, 10)
  else ((s.drop (readL 0 0 s).2.1).take (readL 0 0 s).1, (readL 0 0 s).2.1 + (readL 0 0 s).1, 0)
/-- What a number takes lies within the bytes. -/
theorem readL_took : ∀ (l : List UInt8) (i v : Nat), (readL i v l).2.2 = 0 → 0 < (readL i v l).2.1 ∧ i < (readL i v l).2.1 ∧ (readL i v l).2.1 ≤ i + l.length
  | [], i, v, h => by simp [readL] at h
  | b :: r, i, v, h => by
    simp only [readL] at h ⊢
    split at h
    · simp at h
    · split at h
      · rename_i h1 h2
        have := readL_took r (i + 1) _ h
        rw [if_neg h1, if_pos h2]
        simp only [List.length_cons]
        omega
      · split at h
        · simp at h
        · rename_i h1 h2 h3
          rw [if_neg h1, if_neg h2, if_neg h3]
          simp only [List.length_cons]
          omega
/-- Where a read at p ends. -/
def readAt (p k : Nat) (e : Int) : Int := if e = 0 then ((p + k : Nat) : Int) else 0

set_option maxHeartbeats 1000000 in
set_option maxRecDepth 100000 in
theorem readBytes_calls (l : List UInt8) (A : Option Addr) (c p max : Nat) (hp : p ≤ l.length) (hc : l.length ≤ c) (hl : l.length ≤ 140737488351232) (hmax : max ≤ 1000000) (w : World) (hd : RB w A l) :
    Calls Tryd.prog 113 #[.slice A l.length c, .int .i64 p, .int .i64 max] w fun e w' => ∃ A' c', e = .returned (.tuple #[.slice A' (readB max (l.drop p)).1.length c', .int .i64 (readAt p (readB max (l.drop p)).2.1 (readB max (l.drop p)).2.2), .int .i64 (readB max (l.drop p)).2.2])
      ∧ w'.ownsRow w.heap.size 5 1 (.slice A' (readB max (l.drop p)).1.length c') (readB max (l.drop p)).1.length (u8s (readB max (l.drop p)).1) ∧ Below w.heap.size w w' := by
  have HB := Below.refl w.heap.size w
  have cu := readUint_calls l A c p hp hl w hd
  have hu := readL_lt (l.drop p) 0 0 (by omega) (by simp)
  have ht := readL_took (l.drop p) 0 0
  have hx : readB max (l.drop p) = _ := rfl
  conv at hx => rhs; unfold readB
  rw [List.length_drop] at hx ht
  rw [List.drop_drop] at hx
  have t1 : decide ((p : Int) < 0) = false := by simp
  have t2 : decide ((l.length : Int) < (p : Int)) = false := by simp; omega
  have t3 : decide ((max : Int) < 0) = false := by simp
  have t4 : IntKind.u64.wrap (max : Int) = max := by rw [IntKind.wrap_u64]; omega
  generalize readL 0 0 (l.drop p) = x at cu hu ht hx
  obtain ⟨n, k, e⟩ := x
  simp only at hu ht hx
  by_cases h0 : e = 0
  · subst h0
    have q : readEnd p (n, k, 0) = ((p + k : Nat) : Int) := rfl
    rw [q] at cu
    rw [if_neg (by simp)] at hx
    obtain ⟨k1, k2, k3⟩ := ht rfl
    have hk0 : 0 < p + k := by omega
    clear ht q
    have hk : l.length - p - k = l.length - (p + k) := by omega
    have hkl : p + k ≤ l.length := by omega
    have hko : p + (k + n) = p + k + n := by omega
    have hra : readAt p (k + n) 0 = ((p + k + n : Nat) : Int) := by rw [← hko]; exact if_pos rfl
    rw [hk] at hx
    clear hk hko k1 k2 k3
    generalize p + k = q at cu hx hkl hra hk0
    have Cu := Lib.hid cu
    have Hra := Lib.hid hra
    have t6 : IntKind.u64.wrap ((l.length : Int) - (q : Int)) = (l.length : Int) - (q : Int) := by rw [IntKind.wrap_u64]; omega
    clear hra
    by_cases hn : max < n
    · rw [if_pos hn] at hx
      have t5 : decide ((max : Int) < (n : Int)) = true := by simp [hn]
      have t5' : decide (max < n) = true := by simp [hn]
      have Hx := Lib.hid hx
      clear hx cu hu hn
      go_enter Tryd.func113, Tryd.ntmps113
      go_wp2_with (first
        | (go_at_call 95; (with_reducible refine Cu.out.mono ?_); rintro e w1 ⟨rfl, rfl⟩))
      go_ret3
      exact ⟨none, 0, by rw [Hx.out]; rfl, by rw [Hx.out]; exact own_nil _ _ _ _, HB⟩
    · rw [if_neg hn] at hx
      have t5 : decide ((max : Int) < (n : Int)) = false := by rw [decide_eq_false_iff_not]; omega
      have t5' : decide (max < n) = false := by rw [decide_eq_false_iff_not]; omega
      by_cases hs : l.length - q < n
      · rw [if_pos hs] at hx
        have t7 : decide ((l.length : Int) - (q : Int) < (n : Int)) = true := by rw [decide_eq_true_eq]; omega
        have Hx := Lib.hid hx
        clear hx cu hu hn hs
        go_enter Tryd.func113, Tryd.ntmps113
        go_wp2_with (first
          | (go_at_call 95; (with_reducible refine Cu.out.mono ?_); rintro e w1 ⟨rfl, rfl⟩))
        go_ret3
        exact ⟨none, 0, by rw [Hx.out]; rfl, by rw [Hx.out]; exact own_nil _ _ _ _, HB⟩
      · rw [if_neg hs] at hx
        have t7 : decide ((l.length : Int) - (q : Int) < (n : Int)) = false := by rw [decide_eq_false_iff_not]; omega
        have hlim : q + n ≤ l.length := by omega
        have t8 : wrap64 (n : Int) = n := by unfold wrap64; omega
        have t9 : wrap64 ((q : Int) + (n : Int)) = (q : Int) + (n : Int) := by unfold wrap64; omega
        have hpos : 0 < l.length := Nat.lt_of_lt_of_le hk0 hkl
        obtain ⟨ad, hA, _⟩ := hd.get hpos
        subst hA
        have cp := wpiece_calls l ad c q n hpos hlim hc hl w hd
        rw [Int.natCast_add] at cp
        have hlen : ((l.drop q).take n).length = n := by rw [List.length_take, List.length_drop]; omega
        generalize (l.drop q).take n = y at hx hlen cp
        have Hx := Lib.hid hx
        have Cp := Lib.hid cp
        clear hx cu hu hn hs cp
        go_enter Tryd.func113, Tryd.ntmps113
        go_wp2_with (first
          | (go_at_call 95; (with_reducible refine Cu.out.mono ?_); rintro e w1 ⟨rfl, rfl⟩)
          | (go_at_call 129; (with_reducible refine Cp.out.mono ?_); rintro e w1 ⟨A', c', rfl, oA, hb⟩))
        go_ret3
        exact ⟨A', c', by rw [Hx.out, Hra.out, hlen]; rfl, by rw [Hx.out, hlen]; exact oA, hb⟩
  · have t1 := int_bne_true h0
    have q : readEnd p (n, k, e) = 0 := if_neg h0
    rw [q] at cu
    rw [if_pos h0] at hx
    have Cu := Lib.hid cu
    have Hx := Lib.hid hx
    have H0 := Lib.hid h0
    clear cu hu q h0 hx ht
    go_enter Tryd.func113, Tryd.ntmps113
    go_wp2_with (first
      | (go_at_call 95; (with_reducible refine Cu.out.mono ?_); rintro e w1 ⟨rfl, rfl⟩))
    go_ret3
    exact ⟨none, 0, by rw [Hx.out]; unfold readAt; rw [if_neg H0.out]; rfl, by rw [Hx.out]; exact own_nil _ _ _ _, HB⟩
end Go.Proofs.YtjhiohjpkdjkoaaDoor
