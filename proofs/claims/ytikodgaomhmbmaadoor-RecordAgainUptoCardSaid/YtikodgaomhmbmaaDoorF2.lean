/-
  The walks of annalsref3.Fields, annalslaw3.same and of the law RecordFields.
-/
import Derived.Test.YtikodgaomhmbmaaDoorF1
set_option linter.unusedVariables false
set_option linter.unusedSimpArgs false
namespace Go.Proofs.YtikodgaomhmbmaaDoor
open Go.RowKit

set_option maxRecDepth 100000 in
theorem fields_out (v k : Int) (h : v < 1 ∨ 3 < v ∨ k < 1 ∨ 7 < k) (w : World) : Calls Tryd.prog 58 #[.int .i64 v, .int .i64 k] w fun e w' => e = .returned (.slice none 0 0) ∧ Below w.heap.size w w' := by
  by_cases h1 : v < 1
  · have t1 : decide (v < 1) = true := by simp; omega
    clear h h1
    go_enter Tryd.func58, Tryd.ntmps58
    go_wp2
    go_ret
    exact ⟨rfl, Below.refl _ _⟩
  have t1 : decide (v < 1) = false := by simp; omega
  by_cases h2 : 3 < v
  · have t2 : decide (3 < v) = true := by simp; omega
    clear h h1 h2
    go_enter Tryd.func58, Tryd.ntmps58
    go_wp2
    go_ret
    exact ⟨rfl, Below.refl _ _⟩
  have t2 : decide (3 < v) = false := by simp; omega
  by_cases h3 : k < 1
  · have t3 : decide (k < 1) = true := by simp; omega
    clear h h1 h2 h3
    go_enter Tryd.func58, Tryd.ntmps58
    go_wp2
    go_ret
    exact ⟨rfl, Below.refl _ _⟩
  have t3 : decide (k < 1) = false := by simp; omega
  have t4 : decide (7 < k) = true := by simp; omega
  clear h h1 h2 h3
  go_enter Tryd.func58, Tryd.ntmps58
  go_wp2
  go_ret
  exact ⟨rfl, Below.refl _ _⟩
set_option maxRecDepth 100000 in
theorem refFields_out (v k : Int) (h : v < 1 ∨ 3 < v ∨ k < 1 ∨ 7 < k) (w : World) : Calls Tryd.prog 93 #[.int .i64 v, .int .i64 k] w fun e w' => e = .returned (.slice none 0 0) ∧ Below w.heap.size w w' := by
  by_cases h1 : v < 1
  · have t1 : decide (v < 1) = true := by simp; omega
    clear h h1
    go_enter Tryd.func93, Tryd.ntmps93
    go_wp2
    go_ret
    exact ⟨rfl, Below.refl _ _⟩
  have t1 : decide (v < 1) = false := by simp; omega
  by_cases h2 : 3 < v
  · have t2 : decide (3 < v) = true := by simp; omega
    clear h h1 h2
    go_enter Tryd.func93, Tryd.ntmps93
    go_wp2
    go_ret
    exact ⟨rfl, Below.refl _ _⟩
  have t2 : decide (3 < v) = false := by simp; omega
  by_cases h3 : k < 1
  · have t3 : decide (k < 1) = true := by simp; omega
    clear h h1 h2 h3
    go_enter Tryd.func93, Tryd.ntmps93
    go_wp2
    go_ret
    exact ⟨rfl, Below.refl _ _⟩
  have t3 : decide (k < 1) = false := by simp; omega
  have t4 : decide (7 < k) = true := by simp; omega
  clear h h1 h2 h3
  go_enter Tryd.func93, Tryd.ntmps93
  go_wp2
  go_ret
  exact ⟨rfl, Below.refl _ _⟩

set_option maxRecDepth 100000 in
/-- annalslaw3.same. -/
theorem sameNats_calls (l m : List Nat) (A B : Option Addr) (c d : Nat) (w : World) (ha : RN w A l) (hb : RN w B m) (hl : l.length ≤ 140737488351232) (hm : m.length ≤ 140737488351232) :
    Calls Tryd.prog 59 #[.slice A l.length c, .slice B m.length d] w fun e w' => e = .returned (.bool (decide (l = m))) ∧ Below w.heap.size w w' := by
  by_cases hn : l.length = m.length
  · have hn1 : ((l.length : Int) == (m.length : Int)) = true := by simp [hn]
    have hn2 : ((l.length : Int) != (m.length : Int)) = false := by simp [hn]
    have hn3 : (l.length == m.length) = true := by simp [hn]
    have Hn := Lib.hid hn
    clear hn
    go_enter Tryd.func59, Tryd.ntmps59
    go_wp2
    go_loopg [5] l.length (fun n v5 wr => ∃ k : Nat, n + k = l.length ∧ v5 = .int .i64 k ∧ Aside ((∀ j, j < k → l[j]? = m[j]?) ∧ Below w.heap.size w wr))
    case atStart => exact ⟨0, by omega, rfl, ⟨fun j h => by omega, Below.refl _ _⟩⟩
    case round =>
      obtain ⟨k, hk, rfl, HA⟩ := hrel
      by_cases hlt : k < l.length
      · have hlm : k < m.length := by have := Hn.out; omega
        obtain ⟨ad, rfl, hca⟩ := (ha.next HA.out.2).get hlt
        obtain ⟨bd, rfl, hcb⟩ := (hb.next HA.out.2).get hlm
        by_cases hx : l[k] = m[k]
        · have hx1 : ((l[k] : Int) == (m[k] : Int)) = true := by simp [hx]
          have hx2 : ((l[k] : Int) != (m[k] : Int)) = false := by simp [hx]
          have hx3 : (l[k] == m[k]) = true := by simp [hx]
          have hx4 : (l[k] != m[k]) = false := by simp [hx]
          have Hx := Lib.hid hx
          clear hx
          go_wp2
          go_quiet (fail)
          go_wp2
          go_roundg (gk - 1)
          case measure => omega
          case rel => exact ⟨k + 1, by omega, by go_num, ⟨fun j h => by
            rcases Nat.lt_or_ge j k with hjk | hjk
            · exact HA.out.1 j hjk
            · obtain rfl : j = k := by omega
              rw [List.getElem?_eq_getElem hlt, List.getElem?_eq_getElem hlm, Hx.out], below_drewN HA.out.2 _⟩⟩
        · have hx1 : ((l[k] : Int) == (m[k] : Int)) = false := by simp; omega
          have hx2 : ((l[k] : Int) != (m[k] : Int)) = true := by simp; omega
          have hx3 : (l[k] == m[k]) = false := by simp; omega
          have hx4 : (l[k] != m[k]) = true := by simp; omega
          have Hx := Lib.hid hx
          clear hx
          go_wp2
          go_quiet (fail)
          go_wp2
          go_ret
          refine ⟨ret_bool ?_, below_drewN HA.out.2 _⟩
          symm
          rw [decide_eq_false_iff_not]
          rintro rfl
          exact Hx.out rfl
      · go_wp2
        go_ret
        refine ⟨ret_bool ?_, HA.out.2⟩
        symm
        rw [decide_eq_true_iff]
        exact list_eq_upto Hn.out fun j hj => HA.out.1 j (by omega)
  · have hn1 : ((l.length : Int) == (m.length : Int)) = false := by simp; omega
    have hn2 : ((l.length : Int) != (m.length : Int)) = true := by simp; omega
    have hn3 : (l.length == m.length) = false := by simp; omega
    have Hn := Lib.hid hn
    clear hn
    go_enter Tryd.func59, Tryd.ntmps59
    go_wp2
    go_ret
    refine ⟨ret_bool ?_, Below.refl _ _⟩
    symm
    rw [decide_eq_false_iff_not]
    rintro rfl
    exact Hn.out rfl

/-- The tags that a row's letters name. -/
def lettersTo (s : List UInt8) (k : Nat) : List Nat := (s.take k).map fun b => b.toNat - 97 + 1
theorem lettersTo_succ (s : List UInt8) (k : Nat) (h : k < s.length) : lettersTo s (k + 1) = lettersTo s k ++ [s[k].toNat - 97 + 1] := by
  unfold lettersTo
  rw [List.take_succ_eq_append_getElem h, List.map_append]
  rfl
theorem lettersTo_len (s : List UInt8) (k : Nat) : (lettersTo s k).length ≤ k := by
  unfold lettersTo
  simp only [List.length_map, List.length_take]
  omega
set_option maxHeartbeats 1000000 in
set_option maxRecDepth 100000 in
theorem refFields_calls (p q : Nat) (s : ByteArray) (hp : p < 3) (hq : q < 7) (hs : ∀ b ∈ s.data.toList, 97 ≤ b.toNat ∧ b.toNat ≤ 107) (hl : s.size ≤ 11) (w : World) (hc : w.cell? ⟨2, q * 3 + p, none⟩ = some (.string s)) :
    Calls Tryd.prog 93 #[.int .i64 (p + 1 : Int), .int .i64 (q + 1 : Int)] w fun e w' => ∃ A c, e = .returned (.slice A (lettersTo s.data.toList s.size).length c) ∧
      w'.ownsRow w.heap.size 3 1 (.slice A (lettersTo s.data.toList s.size).length c) (lettersTo s.data.toList s.size).length (nats (lettersTo s.data.toList s.size)) ∧ Below w.heap.size w w' := by
  have HB := Below.refl w.heap.size w
  have h1 : decide ((p : Int) + 1 < 1) = false := by simp; omega
  have h2 : decide (3 < (p : Int) + 1) = false := by simp; omega
  have h3 : decide ((q : Int) + 1 < 1) = false := by simp; omega
  have h4 : decide (7 < (q : Int) + 1) = false := by simp; omega
  have Hs := Lib.hid hs
  clear hs
  go_enter Tryd.func93, Tryd.ntmps93
  go_wp2
  go_loopg [6, 7] s.size (fun n v6 v7 wr => ∃ (k : Nat) (A : Option Addr) (c : Nat), n + k = s.size ∧ v7 = .int .i64 k ∧ v6 = .slice A (lettersTo s.data.toList k).length c ∧ Aside (wr.ownsRow w.heap.size 3 1 (.slice A (lettersTo s.data.toList k).length c) (lettersTo s.data.toList k).length (nats (lettersTo s.data.toList k)) ∧ Below w.heap.size w wr))
  case atStart => exact ⟨0, none, 0, rfl, rfl, rfl, ⟨own_nil _ _ _ _, HB⟩⟩
  case round =>
    obtain ⟨k, A, c, hn, rfl, rfl, HA⟩ := hrel
    obtain ⟨o1, HB⟩ := HA.out
    clear HA
    by_cases hlt : k < s.size
    · have hlen := lettersTo_len s.data.toList k
      have hk : k < s.data.toList.length := by simpa using hlt
      have hb := Hs.out _ (List.getElem_mem hk)
      have e := lettersTo_succ s.data.toList k hk
      have eg : s.data.toList[k] = s[k] := by simp [ByteArray.getElem_eq_getElem_data]
      rw [eg] at e hb
      obtain ⟨hb1, hb2⟩ := hb
      have He := Lib.hid e
      clear e eg
      go_wp2_with (first
        | ((with_reducible refine gate_dst (N := 42) rfl ?_); refine ev_lit rfl rfl (#[.int .i64 ((s[k].toNat : Int) - 97 + 1)]) 3 1 (by first | (go_simp; done) | (go_simp; rfl)) ?_; intro g2 W1 hg2 hsz hbn; have hgr := grown_of_below hbn; have zg2 : w.heap.size ≤ g2 := (by have := HB.size; omega); replace o1 := o1.kept hgr (by cases Value.ownBlock _ <;> simp); replace HB := HB.grown hgr (by have := HB.size; omega) (by simp); have hcg2 := hg2.cell; have hfg2 := hg2.frozen; clear hsz hbn hgr)
        | ((with_reducible refine gate_dst (N := 43) rfl ?_); refine ev_append rfl rfl Tryd.underlying83 info_int rfl (by omega) rfl o1 rfl (hg2.reads (size := 1) (n := 1) rfl) (by simp [Value.oneCell']) (by omega) (by omega) (by have := HB.size; omega) ?_; intro A2 c2 W2 on hgr hat; replace HB := HB.grown hgr (by have := HB.size; omega) (own_base o1); replace o1 := on; clear on hgr hat))
      have he := He.out
      go_roundg (gk - 1)
      case measure => omega
      case rel => exact ⟨k + 1, A2, c2, by omega, by go_num, by rw [he]; simp, ⟨by
        rw [he, nats_append, show nats [s[k].toNat - 97 + 1] = [.int .i64 ((s[k].toNat : Int) - 97 + 1)] by simp only [nats, List.map_cons, List.map_nil]; congr 2; omega]
        simpa using o1, HB⟩⟩
    · obtain rfl : k = s.size := by omega
      go_wp2
      go_ret
      exact ⟨_, _, rfl, o1, HB⟩
end Go.Proofs.YtikodgaomhmbmaaDoor
