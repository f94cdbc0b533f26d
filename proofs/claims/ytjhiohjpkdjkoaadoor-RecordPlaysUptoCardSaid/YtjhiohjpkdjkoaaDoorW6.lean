/-
  The walks of wire.Uint, wire.Int, wire.Bytes, for every argument.
-/
import Derived.Test.YtjhiohjpkdjkoaaDoorW1
set_option linter.unusedVariables false
set_option linter.unusedSimpArgs false
namespace Go.Proofs.YtjhiohjpkdjkoaaDoor
open Go.RowKit

theorem or_128 : ∀ n < 256, bits .or .u8 ((n : Nat) : Int) 128 = ((n % 128 + 128 : Nat) : Int) := by decide +kernel
/-- A number, seven bits a byte, low ones first. -/
def uintL (v : Nat) : List UInt8 := if h : v < 128 then [UInt8.ofNat v] else UInt8.ofNat (v % 128 + 128) :: uintL (v / 128)
termination_by v
theorem uintL_last {v : Nat} (h : v < 128) : uintL v = [UInt8.ofNat v] := by rw [uintL, dif_pos h]
theorem uintL_more {v : Nat} (h : ¬ v < 128) : uintL v = UInt8.ofNat (v % 128 + 128) :: uintL (v / 128) := by rw [uintL, dif_neg h]
theorem uintL_len (v : Nat) : 1 ≤ (uintL v).length := by
  by_cases h : v < 128
  · rw [uintL_last h]; simp
  · rw [uintL_more h]; simp
theorem len_of_pow {n v : Nat} (h : 2 ^ n * (v + 1) ≤ 2 ^ 64) : n ≤ 64 := by
  rcases Nat.lt_or_ge 64 n with hn | hn
  · exfalso
    have h1 : 2 ^ 65 ≤ 2 ^ n := Nat.pow_le_pow_right (by decide) hn
    have h2 : 2 ^ n * 1 ≤ 2 ^ n * (v + 1) := Nat.mul_le_mul_left _ (by omega)
    omega
  · exact hn
theorem pow_step {n v : Nat} (h : 2 ^ n * (v + 1) ≤ 2 ^ 64) (hv : ¬ v < 128) : 2 ^ (n + 1) * (v / 128 + 1) ≤ 2 ^ 64 := by
  have h1 : 2 * (v / 128 + 1) ≤ v + 1 := by omega
  have h2 : 2 ^ n * (2 * (v / 128 + 1)) ≤ 2 ^ n * (v + 1) := Nat.mul_le_mul_left _ h1
  have e : 2 ^ (n + 1) * (v / 128 + 1) = 2 ^ n * (2 * (v / 128 + 1)) := by rw [Nat.pow_succ, Nat.mul_assoc]
  omega
theorem u8_one (n : Nat) (h : n < 256) : u8s [UInt8.ofNat n] = [.int .u8 (n : Int)] := by
  have : (UInt8.ofNat n).toNat = n := by rw [UInt8.toNat_ofNat']; exact Nat.mod_eq_of_lt h
  simp [u8s, this]

set_option maxHeartbeats 2000000 in
set_option maxRecDepth 100000 in
theorem uint_calls (v : Nat) (hv : v < 18446744073709551616) (w : World) :
    Calls Tryd.prog 103 #[.int .u64 v] w fun e w' => ∃ A c, e = .returned (.slice A (uintL v).length c) ∧ w'.ownsRow w.heap.size 5 1 (.slice A (uintL v).length c) (uintL v).length (u8s (uintL v)) ∧ Below w.heap.size w w' := by
  have HB := Below.refl w.heap.size w
  go_enter Tryd.func103, Tryd.ntmps103
  go_wp2_with (first
    | (at_make; refine ev_make rfl rfl Tryd.underlying33 info_u8 rfl rfl (n := 10) rfl (by omega) (by decide) ?_; intro g W1 o1 hge hbn; have hgr := grown_of_below hbn; replace HB := HB.grown hgr (by have := HB.size; omega) (by simp); clear hgr hbn hge))
  go_loopg [0, 3] v (fun n v0 v3 wr => ∃ (x : Nat) (A : Option Addr) (c : Nat) (acc : List UInt8), n = x ∧ v0 = .int .u64 x ∧ v3 = .slice A acc.length c ∧ Aside (uintL v = acc ++ uintL x ∧ 2 ^ acc.length * (x + 1) ≤ 2 ^ 64 ∧ x < 18446744073709551616 ∧
    wr.ownsRow w.heap.size 5 1 (.slice A acc.length c) acc.length (u8s acc) ∧ Below w.heap.size w wr))
  case atStart => exact ⟨v, some ⟨g, 0, none⟩, 10, [], rfl, rfl, rfl, ⟨rfl, by simp; omega, hv, o1, HB⟩⟩
  case round =>
    clear o1 HB
    obtain ⟨x, A5, c5, acc, hgk, rfl, rfl, HA⟩ := hrel
    obtain ⟨hacc, hpow, hx, o1, HB⟩ := HA.out
    clear HA
    have hlen := len_of_pow hpow
    have Hacc := Lib.hid hacc
    have Hpow := Lib.hid hpow
    clear hacc hpow
    by_cases h128 : x < 128
    · have t1 : decide ((128 : Int) ≤ (x : Int)) = false := by simp; omega
      have t2 : IntKind.u8.wrap (x : Int) = x := by rw [IntKind.wrap_u8]; omega
      have hfin : uintL v = acc ++ [UInt8.ofNat x] := by rw [Hacc.out, uintL_last h128]
      have Hfin := Lib.hid hfin
      clear hfin
      go_wp2_with (first
        | ((with_reducible refine gate_dst (N := 18) rfl ?_); refine ev_lit rfl rfl (#[.int .u8 x]) 5 1 (by first | (go_simp; done) | (go_simp; rfl)) ?_; intro g2 W1 hg2 hsz hbn; have hgr := grown_of_below hbn; have zg2 : w.heap.size ≤ g2 := (by have := HB.size; omega); replace o1 := o1.kept hgr (by cases Value.ownBlock _ <;> simp); replace HB := HB.grown hgr (by have := HB.size; omega) (by simp); have hcg2 := hg2.cell; have hfg2 := hg2.frozen; clear hsz hbn hgr)
        | ((with_reducible refine gate_dst (N := 19) rfl ?_); refine ev_append rfl rfl Tryd.underlying33 info_u8 rfl (by omega) rfl o1 rfl (hg2.reads (size := 1) (n := 1) rfl) (fun u hu => by simp at hu; subst hu; rfl) (by omega) (by omega) (by have := HB.size; omega) ?_; intro A2 c2 W2 on hgr hat; replace HB := HB.grown hgr (by have := HB.size; omega) (own_base o1); replace o1 := on; clear on hgr hat))
      go_ret
      refine ⟨A2, c2, by rw [Hfin.out]; simp, ?_, HB⟩
      rw [Hfin.out, u8s_append, u8_one x (by omega)]
      simpa using o1
    · have t1 : decide ((128 : Int) ≤ (x : Int)) = true := by simp; omega
      have t2 : bits .or .u8 ((x : Int) % 256) 128 = ((x % 128 + 128 : Nat) : Int) := by
        have e : (x : Int) % 256 = ((x % 256 : Nat) : Int) := by omega
        rw [e, or_128 _ (by omega)]
        congr 2
        omega
      have hnext : uintL v = (acc ++ [UInt8.ofNat (x % 128 + 128)]) ++ uintL (x / 128) := by rw [Hacc.out, uintL_more h128]; simp
      have Hnext := Lib.hid hnext
      have Hpow2 := Lib.hid (pow_step Hpow.out h128)
      clear hnext
      generalize hb : x % 128 + 128 = b at t2 Hnext
      go_wp2_with (first
        | ((with_reducible refine gate_dst (N := 11) rfl ?_); refine ev_lit rfl rfl (#[.int .u8 b]) 5 1 (by first | (go_simp; done) | (go_simp; rfl)) ?_; intro g2 W1 hg2 hsz hbn; have hgr := grown_of_below hbn; have zg2 : w.heap.size ≤ g2 := (by have := HB.size; omega); replace o1 := o1.kept hgr (by cases Value.ownBlock _ <;> simp); replace HB := HB.grown hgr (by have := HB.size; omega) (by simp); have hcg2 := hg2.cell; have hfg2 := hg2.frozen; clear hsz hbn hgr)
        | ((with_reducible refine gate_dst (N := 12) rfl ?_); refine ev_append rfl rfl Tryd.underlying33 info_u8 rfl (by omega) rfl o1 rfl (hg2.reads (size := 1) (n := 1) rfl) (fun u hu => by simp at hu; subst hu; rfl) (by omega) (by omega) (by have := HB.size; omega) ?_; intro A2 c2 W2 on hgr hat; replace HB := HB.grown hgr (by have := HB.size; omega) (own_base o1); replace o1 := on; clear on hgr hat))
      have hx2 : x / 128 < x := by omega
      go_roundg (x / 128)
      case measure => omega
      case rel => exact ⟨x / 128, A2, c2, acc ++ [UInt8.ofNat b], rfl, by rw [show ((x / 128 : Nat) : Int) = (x : Int) / 128 by omega], by simp, ⟨Hnext.out, by rw [List.length_append]; exact Hpow2.out, by omega, by rw [u8s_append, u8_one b (by omega)]; simpa using o1, HB⟩⟩

theorem uintL_pow : ∀ v : Nat, 2 ^ (uintL v).length ≤ 2 * (v + 1) := by
  intro v
  induction v using Nat.strongRecOn with
  | _ v ih =>
    by_cases h : v < 128
    · rw [uintL_last h]; simp; omega
    · rw [uintL_more h, List.length_cons, Nat.pow_succ]
      have := ih (v / 128) (by omega)
      omega
theorem uintL_short {v : Nat} (hv : v < 18446744073709551616) : (uintL v).length ≤ 65 := by
  have h := uintL_pow v
  rcases Nat.lt_or_ge 65 (uintL v).length with hn | hn
  · exfalso
    have h1 : 2 ^ 66 ≤ 2 ^ (uintL v).length := Nat.pow_le_pow_right (by decide) hn
    omega
  · exact hn

/-- A byte string with its length ahead of it. -/
def bytesL (s : List UInt8) : List UInt8 := uintL s.length ++ s
set_option maxHeartbeats 1000000 in
set_option maxRecDepth 100000 in
theorem bytes_calls (s : List UInt8) (A : Option Addr) (c : Nat) (hs : s.length ≤ 140737488351232) (w : World) (hd : RB w A s) :
    Calls Tryd.prog 105 #[.slice A s.length c] w fun e w' => ∃ A' c', e = .returned (.slice A' (bytesL s).length c') ∧ w'.ownsRow w.heap.size 5 1 (.slice A' (bytesL s).length c') (bytesL s).length (u8s (bytesL s)) ∧ Below w.heap.size w w' := by
  have HB := Below.refl w.heap.size w
  have hsh := uintL_short (v := s.length) (by omega)
  have t1 : IntKind.u64.wrap (s.length : Int) = s.length := by rw [IntKind.wrap_u64]; omega
  go_enter Tryd.func105, Tryd.ntmps105
  go_wp2_with (first
    | (go_at_call 103; (with_reducible refine (uint_calls s.length (by omega) _).mono ?_); rintro e W1 ⟨A5, c5, rfl, o5, hb⟩; have hgr := grown_of_below hb; replace o5 := own_mono o5 HB.size; replace HB := HB.grown hgr (by have := HB.size; omega) (by simp); clear hb hgr)
    | ((with_reducible refine gate_dst (N := 8) rfl ?_); refine ev_append rfl rfl Tryd.underlying33 info_u8 rfl (by omega) rfl o5 rfl (hd.next HB) u8s_one (by omega) (by omega) (by have := HB.size; omega) ?_; intro A6 c6 W2 on hgr hat; replace HB := HB.grown hgr (by have := HB.size; omega) (own_base o5); replace o5 := on; clear on hgr hat))
  go_ret
  refine ⟨A6, c6, by simp [bytesL], ?_, HB⟩
  unfold bytesL
  rw [u8s_append, List.length_append]
  exact o5

/-- The number that wire.Int hands to wire.Uint. -/
def zig (v : Int) : Int := bits .xor .u64 (IntKind.u64.wrap (IntKind.u64.wrap v * 2)) (IntKind.u64.wrap (v / 9223372036854775808))
theorem zig_range (v : Int) : 0 ≤ zig v ∧ zig v < 18446744073709551616 := by
  have e : zig v = IntKind.u64.wrap (((BitVec.ofInt 64 (IntKind.u64.wrap (IntKind.u64.wrap v * 2)) ^^^ BitVec.ofInt 64 (IntKind.u64.wrap (v / 9223372036854775808))).toNat : Nat) : Int) := rfl
  rw [e, IntKind.wrap_u64]
  omega
/-- A signed number's bytes. -/
def intL (v : Int) : List UInt8 := uintL (zig v).toNat
set_option maxHeartbeats 1000000 in
set_option maxRecDepth 100000 in
theorem int_calls (v : Int) (w : World) :
    Calls Tryd.prog 104 #[.int .i64 v] w fun e w' => ∃ A c, e = .returned (.slice A (intL v).length c) ∧ w'.ownsRow w.heap.size 5 1 (.slice A (intL v).length c) (intL v).length (u8s (intL v)) ∧ Below w.heap.size w w' := by
  have HB := Below.refl w.heap.size w
  obtain ⟨z1, z2⟩ := zig_range v
  have cu : ∀ w, Calls Tryd.prog 103 #[.int .u64 (zig v)] w fun e w' => ∃ A c, e = .returned (.slice A (intL v).length c) ∧ w'.ownsRow w.heap.size 5 1 (.slice A (intL v).length c) (intL v).length (u8s (intL v)) ∧ Below w.heap.size w w' := fun w => by
    have := uint_calls (zig v).toNat (by omega) w
    rwa [Int.toNat_of_nonneg z1] at this
  unfold zig at cu
  have Cu := Lib.hid cu
  clear cu z1 z2
  go_enter Tryd.func104, Tryd.ntmps104
  go_wp2_with (first
    | (go_at_call 103; (with_reducible refine (Cu.out _).mono ?_); rintro e W1 ⟨A5, c5, rfl, o5, hb⟩; have hgr := grown_of_below hb; replace o5 := own_mono o5 HB.size; replace HB := HB.grown hgr (by have := HB.size; omega) (by simp); clear hb hgr))
  go_ret
  exact ⟨A5, c5, rfl, o5, HB⟩
end Go.Proofs.YtjhiohjpkdjkoaaDoor
