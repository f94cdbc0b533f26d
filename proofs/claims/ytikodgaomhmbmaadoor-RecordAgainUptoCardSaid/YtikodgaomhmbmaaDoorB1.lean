/-
  The walks of Alike, alike, Part, record.Clone, annalsref3.Clone.
-/
import Derived.Test.YtikodgaomhmbmaaDoorK
set_option linter.unusedVariables false
set_option linter.unusedSimpArgs false
namespace Go.Proofs.YtikodgaomhmbmaaDoor
open Go.RowKit
attribute [local go_sem] Rec.size_ Rec.g0 Rec.g1 Rec.g2 Rec.g3 Rec.g4 Rec.g5 Rec.g6 Rec.g7 Rec.g8 Rec.g9 Rec.g10 Rec.g11

/-- annalsref3.Alike: the same bytes? -/
theorem refAlike_calls (l m : List UInt8) (A B : Option Addr) (c d : Nat) (w : World) (ha : RB w A l) (hb : RB w B m) (hl : l.length ≤ 140737488351232) (hm : m.length ≤ 140737488351232) :
    Calls Tryd.prog 57 #[.slice A l.length c, .slice B m.length d] w fun e w' => e = .returned (.bool (l == m)) ∧ Below w.heap.size w w' := by
  by_cases hn : l.length = m.length
  · have hn1 : ((l.length : Int) == (m.length : Int)) = true := by simp [hn]
    have hn2 : ((l.length : Int) != (m.length : Int)) = false := by simp [hn]
    have hn3 : (l.length == m.length) = true := by simp [hn]
    have Hn := Lib.hid hn
    clear hn
    go_enter Tryd.func57, Tryd.ntmps57
    go_wp2
    go_loopg [5] l.length (fun n v5 wr => ∃ k : Nat, n + k = l.length ∧ v5 = .int .i64 k ∧ Aside ((∀ j, j < k → l[j]? = m[j]?) ∧ Below w.heap.size w wr))
    case atStart => exact ⟨0, by omega, rfl, ⟨fun j h => by omega, Below.refl _ _⟩⟩
    case round =>
      obtain ⟨k, hk, rfl, HA⟩ := hrel
      by_cases hlt : k < l.length
      · have hlm : k < m.length := by have := Hn.out; omega
        obtain ⟨ad, rfl, hca⟩ := (ha.next HA.out.2).get hlt
        obtain ⟨bd, rfl, hcb⟩ := (hb.next HA.out.2).get hlm
        by_cases hx : l[k] = m[k]
        · have hx1 : ((l[k].toNat : Int) == (m[k].toNat : Int)) = true := by simp [hx]
          have hx2 : ((l[k].toNat : Int) != (m[k].toNat : Int)) = false := by simp [hx]
          have Hx := Lib.hid hx
          clear hx
          go_wp2
          go_quiet (fail)
          go_wp2
          go_roundg (gk - 1)
          case measure => omega
          case rel => exact ⟨k + 1, by omega, by go_num, ⟨fun j h => by
            rcases Nat.lt_or_ge j k with hjk | hjk
            · exact HA.out.1 j hjk
            · obtain rfl : j = k := by omega
              rw [List.getElem?_eq_getElem hlt, List.getElem?_eq_getElem hlm, Hx.out], below_drewN HA.out.2 _⟩⟩
        · have hx1 := u8_beq_false hx
          have hx2 := u8_bne_true hx
          have Hx := Lib.hid hx
          clear hx
          go_wp2
          go_quiet (fail)
          go_wp2
          go_ret
          refine ⟨ret_bool ?_, below_drewN HA.out.2 _⟩
          symm
          rw [beq_eq_false_iff_ne]
          rintro rfl
          exact Hx.out rfl
      · go_wp2
        go_ret
        refine ⟨ret_bool ?_, HA.out.2⟩
        symm
        rw [beq_iff_eq]
        exact list_eq_upto Hn.out fun j hj => HA.out.1 j (by omega)
  · have hn1 : ((l.length : Int) == (m.length : Int)) = false := by simp; omega
    have hn2 : ((l.length : Int) != (m.length : Int)) = true := by simp; omega
    have hn3 : (l.length == m.length) = false := by simp; omega
    have Hn := Lib.hid hn
    clear hn
    go_enter Tryd.func57, Tryd.ntmps57
    go_wp2
    go_ret
    refine ⟨ret_bool ?_, Below.refl _ _⟩
    symm
    rw [beq_eq_false_iff_ne]
    rintro rfl
    exact Hn.out rfl
/-- annalslaw3.alike: the same bytes? -/
theorem alike_calls (l m : List UInt8) (A B : Option Addr) (c d : Nat) (w : World) (ha : RB w A l) (hb : RB w B m) (hl : l.length ≤ 140737488351232) (hm : m.length ≤ 140737488351232) :
    Calls Tryd.prog 54 #[.slice A l.length c, .slice B m.length d] w fun e w' => e = .returned (.bool (l == m)) ∧ Below w.heap.size w w' := by
  by_cases hn : l.length = m.length
  · have hn1 : ((l.length : Int) == (m.length : Int)) = true := by simp [hn]
    have hn2 : ((l.length : Int) != (m.length : Int)) = false := by simp [hn]
    have hn3 : (l.length == m.length) = true := by simp [hn]
    have Hn := Lib.hid hn
    clear hn
    go_enter Tryd.func54, Tryd.ntmps54
    go_wp2
    go_loopg [5] l.length (fun n v5 wr => ∃ k : Nat, n + k = l.length ∧ v5 = .int .i64 k ∧ Aside ((∀ j, j < k → l[j]? = m[j]?) ∧ Below w.heap.size w wr))
    case atStart => exact ⟨0, by omega, rfl, ⟨fun j h => by omega, Below.refl _ _⟩⟩
    case round =>
      obtain ⟨k, hk, rfl, HA⟩ := hrel
      by_cases hlt : k < l.length
      · have hlm : k < m.length := by have := Hn.out; omega
        obtain ⟨ad, rfl, hca⟩ := (ha.next HA.out.2).get hlt
        obtain ⟨bd, rfl, hcb⟩ := (hb.next HA.out.2).get hlm
        by_cases hx : l[k] = m[k]
        · have hx1 : ((l[k].toNat : Int) == (m[k].toNat : Int)) = true := by simp [hx]
          have hx2 : ((l[k].toNat : Int) != (m[k].toNat : Int)) = false := by simp [hx]
          have Hx := Lib.hid hx
          clear hx
          go_wp2
          go_quiet (fail)
          go_wp2
          go_roundg (gk - 1)
          case measure => omega
          case rel => exact ⟨k + 1, by omega, by go_num, ⟨fun j h => by
            rcases Nat.lt_or_ge j k with hjk | hjk
            · exact HA.out.1 j hjk
            · obtain rfl : j = k := by omega
              rw [List.getElem?_eq_getElem hlt, List.getElem?_eq_getElem hlm, Hx.out], below_drewN HA.out.2 _⟩⟩
        · have hx1 := u8_beq_false hx
          have hx2 := u8_bne_true hx
          have Hx := Lib.hid hx
          clear hx
          go_wp2
          go_quiet (fail)
          go_wp2
          go_ret
          refine ⟨ret_bool ?_, below_drewN HA.out.2 _⟩
          symm
          rw [beq_eq_false_iff_ne]
          rintro rfl
          exact Hx.out rfl
      · go_wp2
        go_ret
        refine ⟨ret_bool ?_, HA.out.2⟩
        symm
        rw [beq_iff_eq]
        exact list_eq_upto Hn.out fun j hj => HA.out.1 j (by omega)
  · have hn1 : ((l.length : Int) == (m.length : Int)) = false := by simp; omega
    have hn2 : ((l.length : Int) != (m.length : Int)) = true := by simp; omega
    have hn3 : (l.length == m.length) = false := by simp; omega
    have Hn := Lib.hid hn
    clear hn
    go_enter Tryd.func54, Tryd.ntmps54
    go_wp2
    go_ret
    refine ⟨ret_bool ?_, Below.refl _ _⟩
    symm
    rw [beq_eq_false_iff_ne]
    rintro rfl
    exact Hn.out rfl

/-- annalsref1.Part: the bytes from lo up to hi, in new memory. -/
theorem part_calls (l : List UInt8) (A : Option Addr) (c : Nat) (lo hi : Int) (w : World) (ha : RB w A l) (hl : l.length ≤ 140737488351232) (h0 : 0 ≤ lo) (h1 : lo ≤ hi) (h2 : hi ≤ l.length) :
    Calls Tryd.prog 68 #[.slice A l.length c, .int .i64 lo, .int .i64 hi] w fun e w' => ∃ A' c', e = .returned (.slice A' ((l.drop lo.toNat).take (hi - lo).toNat).length c') ∧
      w'.ownsRow w.heap.size 5 1 (.slice A' ((l.drop lo.toNat).take (hi - lo).toNat).length c') ((l.drop lo.toNat).take (hi - lo).toNat).length (u8s ((l.drop lo.toNat).take (hi - lo).toNat)) ∧ Below w.heap.size w w' := by
  obtain ⟨p, rfl⟩ := Int.eq_ofNat_of_zero_le h0
  obtain ⟨q, rfl⟩ := Int.eq_ofNat_of_zero_le (Int.le_trans h0 h1)
  have hpq : p ≤ q := by omega
  have hq : q ≤ l.length := by omega
  have e1 : ((p : Int)).toNat = p := by omega
  have e2 : ((q : Int) - (p : Int)).toNat = q - p := by omega
  rw [e1, e2]
  clear e1 e2 h0 h1 h2
  have hlen : ∀ k, p ≤ k → k ≤ q → ((l.drop p).take (k - p)).length = k - p := fun k h1 h2 => by rw [List.length_take, List.length_drop]; omega
  have Hlen := Lib.hid hlen
  clear hlen
  go_enter Tryd.func68, Tryd.ntmps68
  go_wp2
  go_loopg [7, 8] q (fun n v7 v8 wr => ∃ (k : Nat) (A1 : Option Addr) (c1 : Nat), p ≤ k ∧ n + k = q + p ∧ k ≤ q ∧ v8 = .int .i64 k ∧ v7 = .slice A1 (k - p) c1 ∧ Aside (wr.ownsRow w.heap.size 5 1 (.slice A1 (k - p) c1) (k - p) (u8s ((l.drop p).take (k - p))) ∧ Below w.heap.size w wr))
  case atStart => exact ⟨p, none, 0, by omega, by omega, by omega, rfl, by simp, ⟨by simpa [u8s] using own_nil w w.heap.size _ 1, Below.refl _ _⟩⟩
  case round =>
    obtain ⟨k, A1, c1, hpk, hn, hkq, rfl, rfl, HA⟩ := hrel
    by_cases hlt : k < q
    · have hkl : k < l.length := by omega
      obtain ⟨ad, rfl, hca⟩ := (ha.next HA.out.2).get hkl
      have HB := HA.out.2
      have o1 := HA.out.1
      go_wp2_with (first
        | ((with_reducible refine gate_dst (N := 20) rfl ?_); refine ev_lit rfl rfl (#[.int .u8 l[k].toNat]) 5 1 (by first | (go_simp; done) | (go_simp; rfl)) ?_; intro g1 W1 hg1 hsz hbn; have hgr := grown_of_below hbn; have zg1 : w.heap.size ≤ g1 := (by have := HB.size; omega); replace o1 := o1.kept hgr (by cases Value.ownBlock _ <;> simp); replace HB := HB.grown hgr (by have := HB.size; omega) (by simp); have hcg1 := hg1.cell; have hfg1 := hg1.frozen; clear hsz hbn hgr)
        | ((with_reducible refine gate_dst (N := 21) rfl ?_); refine ev_append rfl rfl Tryd.underlying25 info_u8 rfl (by omega) rfl o1 rfl (hg1.reads (size := 1) (n := 1) rfl) (u8s_one (l := [l[k]])) (by omega) (by omega) (by have := HB.size; omega) ?_; intro A2 c2 W2 on hgr hat; replace HB := HB.grown hgr (by have := HB.size; omega) (own_base o1); replace o1 := on; clear on hgr hat))
      go_roundg (gk - 1)
      case measure => omega
      case rel => exact ⟨k + 1, A2, c2, by omega, by omega, by omega, by go_num, by rw [show k + 1 - p = k - p + 1 by omega], ⟨by
          rw [show k + 1 - p = k - p + 1 by omega]
          have e : (l.drop p).take (k - p + 1) = (l.drop p).take (k - p) ++ [l[k]] := by
            rw [List.take_succ_eq_append_getElem (by rw [List.length_drop]; omega)]
            simp [List.getElem_drop, Nat.add_sub_cancel' hpk]
          rw [e, u8s_append]
          exact o1, HB⟩⟩
    · obtain rfl : k = q := by omega
      go_wp2
      go_ret
      refine ⟨A1, c1, ?_, ?_, HA.out.2⟩
      · rw [Hlen.out k hpk (by omega)]; rfl
      · rw [Hlen.out k hpk (by omega)]; exact HA.out.1
end Go.Proofs.YtikodgaomhmbmaaDoor
