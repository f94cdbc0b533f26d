/-
  The walks of record.stands, record.Fields, annalsref3.Fields, annalslaw3.same.
-/
import Derived.Test.YtikodgaomhmbmaaDoorT
import Derived.Laws.Bits64b
set_option linter.unusedVariables false
set_option linter.unusedSimpArgs false
namespace Go.Proofs.YtikodgaomhmbmaaDoor
open Go.RowKit

theorem bits_and_u16_nat (a b : Nat) (ha : a < 65536) (hb : b < 65536) : bits .and .u16 (a : Int) (b : Int) = ((a &&& b : Nat) : Int) := by
  have hx : a &&& b < 2 ^ 16 := Nat.and_lt_two_pow _ (by omega)
  have h1 : (BitVec.ofInt 16 (a : Int)).toNat = a := by
    rw [BitVec.ofInt_natCast, BitVec.toNat_ofNat]; exact Nat.mod_eq_of_lt (by omega)
  have h2 : (BitVec.ofInt 16 (b : Int)).toNat = b := by
    rw [BitVec.ofInt_natCast, BitVec.toNat_ofNat]; exact Nat.mod_eq_of_lt (by omega)
  show IntKind.u16.wrap ((BitVec.ofInt 16 (a : Int) &&& BitVec.ofInt 16 (b : Int)).toNat : Int) = _
  rw [BitVec.toNat_and, h1, h2, IntKind.wrap_u16]
  omega
theorem bit_test (m t : Nat) (hm : m < 65536) : (bits .and .u16 ((m : Int) / 2 ^ t) 1 == 1) = m.testBit t := by
  have e : ((m : Int) / 2 ^ t) = ((m / 2 ^ t : Nat) : Int) := by norm_cast
  have hlt : m / 2 ^ t ≤ m := Nat.div_le_self _ _
  rw [e, show (1 : Int) = ((1 : Nat) : Int) from rfl, bits_and_u16_nat _ _ (by omega) (by decide), Nat.and_one_is_mod, Nat.testBit_eq_decide_div_mod_eq]
  by_cases h : m / 2 ^ t % 2 = 1 <;> simp [h]
  omega
theorem stands_calls (m t : Nat) (hm : m < 65536) (ht : t < 16) (w : World) : Calls Tryd.prog 78 #[.int .u16 m, .int .i64 t] w fun e w' => e = .returned (.bool (m.testBit t)) ∧ w = w' := by
  go_enter Tryd.func78, Tryd.ntmps78
  go_wp2
  go_ret
  exact ⟨ret_bool (bit_test m t hm), rfl⟩

/-- Numbers as cells. -/
def nats (l : List Nat) : List Value := l.map fun (n : Nat) => .int .i64 (n : Int)
theorem nats_length (l : List Nat) : (nats l).length = l.length := by simp [nats]
theorem nats_get {l : List Nat} {k : Nat} (h : k < l.length) : (nats l)[k]? = some (.int .i64 (l[k] : Int)) := by simp [nats, h]
theorem nats_append (l m : List Nat) : nats (l ++ m) = nats l ++ nats m := by simp [nats]
theorem nats_one {l : List Nat} : ∀ u ∈ nats l, u.oneCell' = true := by
  intro u hu
  obtain ⟨b, _, rfl⟩ := List.mem_map.1 hu
  rfl
def RN (w : World) (A : Option Addr) (l : List Nat) : Prop := Reads w w.heap.size 1 A l.length (nats l)
theorem RN.next {w w' : World} {A : Option Addr} {l : List Nat} (h : RN w A l) (hb : Below w.heap.size w w') : RN w' A l := Reads.next h hb
theorem RN.get {w : World} {A : Option Addr} {l : List Nat} (h : RN w A l) {k : Nat} (hk : k < l.length) : ∃ ad, A = some ad ∧ w.cell? (ad.add k) = some (.int .i64 (l[k] : Int)) := by
  obtain ⟨ad, u, e, _, hx, hc⟩ := Reads.at_ h hk
  rw [nats_get hk] at hx
  injection hx with hx
  exact ⟨ad, e, hx ▸ hc⟩

/-- The tags that a set of bits holds, from 1 up to t - 1. -/
def tagsTo (m t : Nat) : List Nat := (List.range' 1 (t - 1)).filter fun i => m.testBit i
theorem tagsTo_one (m : Nat) : tagsTo m 1 = [] := rfl
theorem tagsTo_succ (m t : Nat) (h : 1 ≤ t) : tagsTo m (t + 1) = tagsTo m t ++ if m.testBit t then [t] else [] := by
  unfold tagsTo
  rw [show t + 1 - 1 = (t - 1) + 1 by omega, List.range'_concat, List.filter_append]
  have e : 1 + 1 * (t - 1) = t := by omega
  rw [e]
  by_cases hb : m.testBit t = true <;> simp [hb]
theorem tagsTo_len (m t : Nat) : (tagsTo m t).length ≤ t - 1 := by
  unfold tagsTo
  exact Nat.le_trans (List.length_filter_le _ _) (by simp)

set_option maxHeartbeats 1000000 in
set_option maxRecDepth 100000 in
theorem fields_calls (p q m : Nat) (hp : p < 3) (hq : q < 7) (hm : m < 65536) (w : World) (hg0 : 0 < w.heap.size) (hc : w.cell? ⟨0, p * 7 + q, none⟩ = some (.int .u16 m)) :
    Calls Tryd.prog 58 #[.int .i64 (p + 1 : Int), .int .i64 (q + 1 : Int)] w fun e w' => ∃ A c, e = .returned (.slice A (tagsTo m 12).length c) ∧ w'.ownsRow w.heap.size 3 1 (.slice A (tagsTo m 12).length c) (tagsTo m 12).length (nats (tagsTo m 12)) ∧ Below w.heap.size w w' := by
  have HB := Below.refl w.heap.size w
  have h1 : decide ((p : Int) + 1 < 1) = false := by simp; omega
  have h2 : decide (3 < (p : Int) + 1) = false := by simp; omega
  have h3 : decide ((q : Int) + 1 < 1) = false := by simp; omega
  have h4 : decide (7 < (q : Int) + 1) = false := by simp; omega
  go_enter Tryd.func58, Tryd.ntmps58
  go_wp2
  go_loopg [5, 6] 11 (fun n v5 v6 wr => ∃ (t : Nat) (A : Option Addr) (c : Nat), n + t = 12 ∧ 1 ≤ t ∧ v6 = .int .i64 t ∧ v5 = .slice A (tagsTo m t).length c ∧ Aside (wr.ownsRow w.heap.size 3 1 (.slice A (tagsTo m t).length c) (tagsTo m t).length (nats (tagsTo m t)) ∧ Below w.heap.size w wr))
  case atStart => exact ⟨1, none, 0, rfl, by omega, rfl, rfl, ⟨own_nil _ _ _ _, HB⟩⟩
  case round =>
    obtain ⟨t, A, c, hn, h1t, rfl, rfl, HA⟩ := hrel
    obtain ⟨o1, HB⟩ := HA.out
    clear HA
    by_cases hle : t ≤ 11
    · have hcr := (HB.cell (p := ⟨0, p * 7 + q, none⟩) hg0).trans hc
      have hlen := tagsTo_len m t
      have hs := tagsTo_succ m t h1t
      have Hs := Lib.hid hs
      clear hs
      by_cases hb : m.testBit t = true
      · have hb1 := hb
        go_wp2_with (first
          | (go_at_call 78; (with_reducible refine (stands_calls m t hm (by omega) _).mono ?_); rintro e w1 ⟨rfl, rfl⟩; rw [hb])
          | ((with_reducible refine gate_dst (N := 36) rfl ?_); refine ev_lit rfl rfl (#[.int .i64 t]) 3 1 (by first | (go_simp; done) | (go_simp; rfl)) ?_; intro g2 W1 hg2 hsz hbn; have hgr := grown_of_below hbn; have zg2 : w.heap.size ≤ g2 := (by have := HB.size; omega); replace o1 := o1.kept hgr (by cases Value.ownBlock _ <;> simp); replace HB := HB.grown hgr (by have := HB.size; omega) (by simp); have hcg2 := hg2.cell; have hfg2 := hg2.frozen; clear hsz hbn hgr)
          | ((with_reducible refine gate_dst (N := 37) rfl ?_); refine ev_append rfl rfl Tryd.underlying83 info_int rfl (by omega) rfl o1 rfl (hg2.reads (size := 1) (n := 1) rfl) (nats_one (l := [t])) (by omega) (by omega) (by have := HB.size; omega) ?_; intro A2 c2 W2 on hgr hat; replace HB := HB.grown hgr (by have := HB.size; omega) (own_base o1); replace o1 := on; clear on hgr hat))
        have hs := Hs.out
        rw [hb, if_pos rfl] at hs
        go_roundg (gk - 1)
        case measure => omega
        case rel => exact ⟨t + 1, A2, c2, by omega, by omega, by go_num, by rw [hs]; simp, ⟨by rw [hs, nats_append]; simpa [nats] using o1, HB⟩⟩
      · have hb0 : m.testBit t = false := by simpa using hb
        have hs := Hs.out
        rw [hb0, if_neg (by decide), List.append_nil] at hs
        have Hs2 := Lib.hid hs
        clear hb hs Hs
        go_wp2_with (first
          | (go_at_call 78; (with_reducible refine (stands_calls m t hm (by omega) _).mono ?_); rintro e w1 ⟨rfl, rfl⟩; rw [hb0]))
        have hs := Hs2.out
        go_roundg (gk - 1)
        case measure => omega
        case rel => exact ⟨t + 1, A, c, by omega, by omega, by go_num, by rw [hs], ⟨by rw [hs]; exact o1, HB⟩⟩
    · obtain rfl : t = 12 := by omega
      go_wp2
      go_ret
      exact ⟨_, _, rfl, o1, HB⟩
end Go.Proofs.YtikodgaomhmbmaaDoor
