/-
  The walks of annalsref1.Uint, Int, Bytes, for every argument.
-/
import Derived.Test.YtjhiohjpkdjkoaaDoorW6
set_option linter.unusedVariables false
set_option linter.unusedSimpArgs false
namespace Go.Proofs.YtjhiohjpkdjkoaaDoor
open Go.RowKit

set_option maxHeartbeats 2000000 in
set_option maxRecDepth 100000 in
theorem refUint_calls (v : Nat) (hv : v < 18446744073709551616) (w : World) :
    Calls Tryd.prog 122 #[.int .u64 v] w fun e w' => ∃ A c, e = .returned (.slice A (uintL v).length c) ∧ w'.ownsRow w.heap.size 5 1 (.slice A (uintL v).length c) (uintL v).length (u8s (uintL v)) ∧ Below w.heap.size w w' := by
  have HB := Below.refl w.heap.size w
  go_enter Tryd.func122, Tryd.ntmps122
  go_wp2
  go_loopg [0, 3] v (fun n v0 v3 wr => ∃ (x : Nat) (A : Option Addr) (c : Nat) (acc : List UInt8), n = x ∧ v0 = .int .u64 x ∧ v3 = .slice A acc.length c ∧ Aside (uintL v = acc ++ uintL x ∧ 2 ^ acc.length * (x + 1) ≤ 2 ^ 64 ∧ x < 18446744073709551616 ∧
    wr.ownsRow w.heap.size 5 1 (.slice A acc.length c) acc.length (u8s acc) ∧ Below w.heap.size w wr))
  case atStart => exact ⟨v, none, 0, [], rfl, rfl, rfl, ⟨rfl, by simp; omega, hv, own_nil _ _ _ _, HB⟩⟩
  case round =>
    clear HB
    obtain ⟨x, A5, c5, acc, hgk, rfl, rfl, HA⟩ := hrel
    obtain ⟨hacc, hpow, hx, o1, HB⟩ := HA.out
    clear HA
    have hlen := len_of_pow hpow
    have Hacc := Lib.hid hacc
    have Hpow := Lib.hid hpow
    clear hacc hpow
    by_cases h128 : x < 128
    · have t1 : decide ((127 : Int) < (x : Int)) = false := by simp; omega
      have t2 : IntKind.u8.wrap (x : Int) = x := by rw [IntKind.wrap_u8]; omega
      have hfin : uintL v = acc ++ [UInt8.ofNat x] := by rw [Hacc.out, uintL_last h128]
      have Hfin := Lib.hid hfin
      clear hfin
      go_wp2_with (first
        | ((with_reducible refine gate_dst (N := 18) rfl ?_); refine ev_lit rfl rfl (#[.int .u8 x]) 5 1 (by first | (go_simp; done) | (go_simp; rfl)) ?_; intro g2 W1 hg2 hsz hbn; have hgr := grown_of_below hbn; have zg2 : w.heap.size ≤ g2 := (by have := HB.size; omega); replace o1 := o1.kept hgr (by cases Value.ownBlock _ <;> simp); replace HB := HB.grown hgr (by have := HB.size; omega) (by simp); have hcg2 := hg2.cell; have hfg2 := hg2.frozen; clear hsz hbn hgr)
        | ((with_reducible refine gate_dst (N := 19) rfl ?_); refine ev_append rfl rfl Tryd.underlying33 info_u8 rfl (by omega) rfl o1 rfl (hg2.reads (size := 1) (n := 1) rfl) (fun u hu => by simp at hu; subst hu; rfl) (by omega) (by omega) (by have := HB.size; omega) ?_; intro A2 c2 W2 on hgr hat; replace HB := HB.grown hgr (by have := HB.size; omega) (own_base o1); replace o1 := on; clear on hgr hat))
      go_ret
      refine ⟨A2, c2, by rw [Hfin.out]; simp, ?_, HB⟩
      rw [Hfin.out, u8s_append, u8_one x (by omega)]
      simpa using o1
    · have t1 : decide ((127 : Int) < (x : Int)) = true := by simp; omega
      have t2 : ((128 : Int) + (x : Int) % 128) % 256 = ((x % 128 + 128 : Nat) : Int) := by omega
      have t3 : (128 : Int) + (x : Int) % 128 = ((x % 128 + 128 : Nat) : Int) := by omega
      have hnext : uintL v = (acc ++ [UInt8.ofNat (x % 128 + 128)]) ++ uintL (x / 128) := by rw [Hacc.out, uintL_more h128]; simp
      have Hnext := Lib.hid hnext
      have Hpow2 := Lib.hid (pow_step Hpow.out h128)
      clear hnext
      generalize hb : x % 128 + 128 = b at t2 t3 Hnext
      go_wp2_with (first
        | ((with_reducible refine gate_dst (N := 11) rfl ?_); refine ev_lit rfl rfl (#[.int .u8 b]) 5 1 (by first | (go_simp; done) | (go_simp; rfl)) ?_; intro g2 W1 hg2 hsz hbn; have hgr := grown_of_below hbn; have zg2 : w.heap.size ≤ g2 := (by have := HB.size; omega); replace o1 := o1.kept hgr (by cases Value.ownBlock _ <;> simp); replace HB := HB.grown hgr (by have := HB.size; omega) (by simp); have hcg2 := hg2.cell; have hfg2 := hg2.frozen; clear hsz hbn hgr)
        | ((with_reducible refine gate_dst (N := 12) rfl ?_); refine ev_append rfl rfl Tryd.underlying33 info_u8 rfl (by omega) rfl o1 rfl (hg2.reads (size := 1) (n := 1) rfl) (fun u hu => by simp at hu; subst hu; rfl) (by omega) (by omega) (by have := HB.size; omega) ?_; intro A2 c2 W2 on hgr hat; replace HB := HB.grown hgr (by have := HB.size; omega) (own_base o1); replace o1 := on; clear on hgr hat))
      have hx2 : x / 128 < x := by omega
      go_roundg (x / 128)
      case measure => omega
      case rel => exact ⟨x / 128, A2, c2, acc ++ [UInt8.ofNat b], rfl, by rw [show ((x / 128 : Nat) : Int) = (x : Int) / 128 by omega], by simp, ⟨Hnext.out, by rw [List.length_append]; exact Hpow2.out, by omega, by rw [u8s_append, u8_one b (by omega)]; simpa using o1, HB⟩⟩

set_option maxHeartbeats 1000000 in
set_option maxRecDepth 100000 in
theorem refBytes_calls (s : List UInt8) (A : Option Addr) (c : Nat) (hs : s.length ≤ 140737488351232) (w : World) (hd : RB w A s) :
    Calls Tryd.prog 121 #[.slice A s.length c] w fun e w' => ∃ A' c', e = .returned (.slice A' (bytesL s).length c') ∧ w'.ownsRow w.heap.size 5 1 (.slice A' (bytesL s).length c') (bytesL s).length (u8s (bytesL s)) ∧ Below w.heap.size w w' := by
  have HB := Below.refl w.heap.size w
  have hsh := uintL_short (v := s.length) (by omega)
  have t1 : IntKind.u64.wrap (s.length : Int) = s.length := by rw [IntKind.wrap_u64]; omega
  go_enter Tryd.func121, Tryd.ntmps121
  go_wp2_with (first
    | (go_at_call 122; (with_reducible refine (refUint_calls s.length (by omega) _).mono ?_); rintro e W1 ⟨A5, c5, rfl, o5, hb⟩; have hgr := grown_of_below hb; replace o5 := own_mono o5 HB.size; replace HB := HB.grown hgr (by have := HB.size; omega) (by simp); clear hb hgr)
    | ((with_reducible refine gate_dst (N := 10) rfl ?_); refine ev_append rfl rfl Tryd.underlying33 info_u8 rfl (by omega) rfl o5 rfl (hd.next HB) u8s_one (by omega) (by omega) (by have := HB.size; omega) ?_; intro A6 c6 W2 on hgr hat; replace HB := HB.grown hgr (by have := HB.size; omega) (own_base o5); replace o5 := on; clear on hgr hat))
  go_ret
  refine ⟨A6, c6, by simp [bytesL], ?_, HB⟩
  unfold bytesL
  rw [u8s_append, List.length_append]
  exact o5

theorem xor_zero (x : Int) (h0 : 0 ≤ x) (h1 : x < 18446744073709551616) : bits .xor .u64 x 0 = x := by
  show IntKind.u64.wrap (((BitVec.ofInt 64 x ^^^ BitVec.ofInt 64 0).toNat : Nat) : Int) = x
  have e0 : BitVec.ofInt 64 0 = 0#64 := rfl
  rw [e0, BitVec.xor_zero, BitVec.toNat_ofInt, IntKind.wrap_u64]
  omega
theorem xor_ones (x : Int) (h0 : 0 ≤ x) (h1 : x < 18446744073709551616) : bits .xor .u64 x 18446744073709551615 = 18446744073709551615 - x := by
  show IntKind.u64.wrap (((BitVec.ofInt 64 x ^^^ BitVec.ofInt 64 18446744073709551615).toNat : Nat) : Int) = _
  have e0 : BitVec.ofInt 64 18446744073709551615 = BitVec.allOnes 64 := rfl
  rw [e0, BitVec.xor_allOnes, BitVec.toNat_not, BitVec.toNat_ofInt, IntKind.wrap_u64]
  omega
theorem zig_pos {v : Int} (h0 : 0 ≤ v) (h1 : v ≤ 9223372036854775807) : zig v = v * 2 := by
  unfold zig
  have e1 : IntKind.u64.wrap (v / 9223372036854775808) = 0 := by rw [IntKind.wrap_u64]; omega
  have e2 : IntKind.u64.wrap (IntKind.u64.wrap v * 2) = v * 2 := by rw [IntKind.wrap_u64, IntKind.wrap_u64]; omega
  rw [e1, e2, xor_zero _ (by omega) (by omega)]
theorem zig_neg {v : Int} (h0 : v < 0) (h1 : -9223372036854775808 ≤ v) : zig v = -(v + 1) * 2 + 1 := by
  unfold zig
  have e1 : IntKind.u64.wrap (v / 9223372036854775808) = 18446744073709551615 := by rw [IntKind.wrap_u64]; omega
  have e2 : IntKind.u64.wrap (IntKind.u64.wrap v * 2) = v * 2 + 18446744073709551616 := by rw [IntKind.wrap_u64, IntKind.wrap_u64]; omega
  rw [e1, e2, xor_ones _ (by omega) (by omega)]
  omega
theorem refInt_calls (v : Int) (h0 : -9223372036854775808 ≤ v) (h1 : v ≤ 9223372036854775807) (w : World) :
    Calls Tryd.prog 120 #[.int .i64 v] w fun e w' => ∃ A c, e = .returned (.slice A (intL v).length c) ∧ w'.ownsRow w.heap.size 5 1 (.slice A (intL v).length c) (intL v).length (u8s (intL v)) ∧ Below w.heap.size w w' := by
  have HB := Below.refl w.heap.size w
  obtain ⟨z1, z2⟩ := zig_range v
  have cu : ∀ w, Calls Tryd.prog 122 #[.int .u64 (zig v)] w fun e w' => ∃ A c, e = .returned (.slice A (intL v).length c) ∧ w'.ownsRow w.heap.size 5 1 (.slice A (intL v).length c) (intL v).length (u8s (intL v)) ∧ Below w.heap.size w w' := fun w => by
    have := refUint_calls (zig v).toNat (by omega) w
    rwa [Int.toNat_of_nonneg z1] at this
  by_cases hp : 0 ≤ v
  · have t1 : decide (0 ≤ v) = true := by simp [hp]
    rw [zig_pos hp h1] at cu
    have Cu := Lib.hid cu
    clear cu z1 z2
    go_enter Tryd.func120, Tryd.ntmps120
    go_wp2_with (first
      | (go_at_call 122; (with_reducible refine (Cu.out _).mono ?_); rintro e W1 ⟨A5, c5, rfl, o5, hb⟩; have hgr := grown_of_below hb; replace o5 := own_mono o5 HB.size; replace HB := HB.grown hgr (by have := HB.size; omega) (by simp); clear hb hgr))
    go_ret
    exact ⟨A5, c5, rfl, o5, HB⟩
  · have t1 : decide (0 ≤ v) = false := by simp; omega
    rw [zig_neg (by omega) h0] at cu
    have Cu := Lib.hid cu
    clear cu z1 z2
    have hp' : v < 0 := by omega
    go_enter Tryd.func120, Tryd.ntmps120
    go_wp2_with (first
      | (go_at_call 122; (with_reducible refine (Cu.out _).mono ?_); rintro e W1 ⟨A5, c5, rfl, o5, hb⟩; have hgr := grown_of_below hb; replace o5 := own_mono o5 HB.size; replace HB := HB.grown hgr (by have := HB.size; omega) (by simp); clear hb hgr))
    go_ret
    exact ⟨A5, c5, rfl, o5, HB⟩
end Go.Proofs.YtjhiohjpkdjkoaaDoor
