/-
  The walk of record.Check.
-/
import Derived.Test.YtikodgaomhmbmaaDoorC2
set_option linter.unusedVariables false
set_option linter.unusedSimpArgs false
namespace Go.Proofs.YtikodgaomhmbmaaDoor
open Go.RowKit
attribute [local go_sem] Rec.size_ Rec.g0 Rec.g1 Rec.g2 Rec.g3 Rec.g4 Rec.g5 Rec.g6 Rec.g7 Rec.g8 Rec.g9 Rec.g10 Rec.g11

set_option maxHeartbeats 1000000 in
set_option maxRecDepth 100000 in
theorem checkIn_calls (r : Rec) (A : Option Addr) (c p q : Nat) (hp : p < 3) (hq : q < 7) (hv : r.V = (p : Int) + 1) (hk : r.Kind = (q : Int) + 1) (hs : 1 ≤ r.Saga) (hf : r.Fits) (w : World) (ht : Tabs w) (hd : RB w A r.Data) (hm16 : mayAt p q < 65536) (hc : maysL[p * 7 + q]? = some (.int .u16 (mayAt p q))) :
    Calls Tryd.prog 52 #[.agg (r.cells A c)] w fun e w' => e = .returned (.int .i64 (r.fromE (mayAt p q) 9 3)) ∧ Below w.heap.size w w' := by
  have HB := Below.refl w.heap.size w
  have h1 : decide ((p : Int) + 1 < 1) = false := by simp; omega
  have h2 : decide (3 < (p : Int) + 1) = false := by simp; omega
  have h3 : decide ((q : Int) + 1 < 1) = false := by simp; omega
  have h4 : decide (7 < (q : Int) + 1) = false := by simp; omega
  have h5 : decide (r.Saga < 1) = false := by simp; omega
  generalize hm : mayAt p q = m at hm16 hc ⊢
  have Ht := Lib.hid ht
  have Hc := Lib.hid hc
  clear ht hc hs hm
  go_enter Tryd.func52, Tryd.ntmps52
  go_wp2_with (first
    | ((with_reducible refine gate_dst (N := 1) rfl ?_); refine ev_box rfl rfl (r.cells A c) rfl ?_; intro g1 W1 hg1 hsz hbn; have hgr := grown_of_below hbn; have zg1 : w.heap.size ≤ g1 := (by have := HB.size; omega); replace HB := HB.grown hgr (by have := HB.size; omega) (by simp); have hcg1 := hg1.cell; have hfg1 := hg1.frozen; clear hsz hbn hgr; have hcm : W1.cell? ⟨0, p * 7 + q, none⟩ = some (.int .u16 m) := (Ht.out.next HB).may.2 _ _ Hc.out))
  go_quiet (fail)
  go_wp2
  clear hcm
  go_loopg [4] 9 (fun n v4 wr => ∃ t : Nat, n + t = 12 ∧ 3 ≤ t ∧ v4 = .int .i64 t ∧ Aside (r.fromE m 9 3 = r.fromE m n t ∧ Blk wr g1 _ (r.cells A c) ∧ Below w.heap.size w wr))
  case atStart => exact ⟨3, by omega, by omega, rfl, ⟨rfl, hg1.drewN _, below_drewN HB _⟩⟩
  case round =>
    clear hg1 hcg1 hfg1 HB
    obtain ⟨t, hn, h3t, rfl, HA⟩ := hrel
    obtain ⟨hfrom, hg1, HB⟩ := HA.out
    clear HA
    have Hfrom := Lib.hid hfrom
    clear hfrom
    by_cases hle : t ≤ 11
    · have hstep : r.fromE m gk t = if r.tagE m t = 0 then r.fromE m (gk - 1) (t + 1) else r.tagE m t := by
        obtain ⟨j, rfl⟩ : ∃ j, gk = j + 1 := ⟨gk - 1, by omega⟩
        rfl
      have Hstep := Lib.hid hstep
      clear hstep
      by_cases hb : m.testBit t = true
      · have htag : r.tagE m t = r.bound t := by unfold Rec.tagE; rw [if_pos hb]
        by_cases he : r.bound t = 0
        · have t2 := int_bne_false he
          have hnext : r.fromE m 9 3 = r.fromE m (gk - 1) (t + 1) := by rw [Hfrom.out, Hstep.out, htag, if_pos he]
          have Hnext := Lib.hid hnext
          clear hnext he htag Hstep Hfrom
          go_wp2_with (first
            | (go_at_call 78; (with_reducible refine (stands_calls m t hm16 (by omega) _).mono ?_); rintro e w1 ⟨rfl, rfl⟩; rw [hb])
            | (go_at_call 79; (with_reducible refine (bounds_calls r A c g1 t h3t hle hf _ (Ht.out.next HB) (hd.next HB) hg1).mono ?_); rintro e W1 ⟨rfl, hb⟩; have hgr := grown_of_below hb; replace hg1 := hg1.grown hgr (by simp); replace HB := HB.grown hgr (by have := HB.size; omega) (by simp); replace hcg1 := hg1.cell; replace hfg1 := hg1.frozen; clear hb hgr))
          go_roundg (gk - 1)
          case measure => omega
          case rel => exact ⟨t + 1, by omega, by omega, by go_num, ⟨Hnext.out, hg1, HB⟩⟩
        · have t2 := int_bne_true he
          have hnext : r.fromE m 9 3 = r.bound t := by rw [Hfrom.out, Hstep.out, htag, if_neg he]
          have Hnext := Lib.hid hnext
          clear hnext he htag Hstep Hfrom
          go_wp2_with (first
            | (go_at_call 78; (with_reducible refine (stands_calls m t hm16 (by omega) _).mono ?_); rintro e w1 ⟨rfl, rfl⟩; rw [hb])
            | (go_at_call 79; (with_reducible refine (bounds_calls r A c g1 t h3t hle hf _ (Ht.out.next HB) (hd.next HB) hg1).mono ?_); rintro e W1 ⟨rfl, hb⟩; have hgr := grown_of_below hb; replace hg1 := hg1.grown hgr (by simp); replace HB := HB.grown hgr (by have := HB.size; omega) (by simp); replace hcg1 := hg1.cell; replace hfg1 := hg1.frozen; clear hb hgr))
          go_ret
          exact ⟨ret_int Hnext.out.symm, HB⟩
      · have hb0 : m.testBit t = false := by simpa using hb
        have htag : r.tagE m t = if r.zeroAt t then 0 else 33 := by unfold Rec.tagE; rw [if_neg hb]
        clear hb
        cases hz : r.zeroAt t
        · have hnext : r.fromE m 9 3 = 33 := by rw [Hfrom.out, Hstep.out, htag, hz]; rfl
          have Hnext := Lib.hid hnext
          clear hnext htag Hstep Hfrom
          go_wp2_with (first
            | (go_at_call 78; (with_reducible refine (stands_calls m t hm16 (by omega) _).mono ?_); rintro e w1 ⟨rfl, rfl⟩; rw [hb0])
            | (go_at_call 71; (with_reducible refine (zero_calls r A c g1 t h3t hle _ hg1).mono ?_); rintro e w1 ⟨rfl, rfl⟩; rw [hz]))
          go_ret
          exact ⟨ret_int Hnext.out.symm, HB⟩
        · have hnext : r.fromE m 9 3 = r.fromE m (gk - 1) (t + 1) := by rw [Hfrom.out, Hstep.out, htag, hz]; rfl
          have Hnext := Lib.hid hnext
          clear hnext htag Hstep Hfrom
          go_wp2_with (first
            | (go_at_call 78; (with_reducible refine (stands_calls m t hm16 (by omega) _).mono ?_); rintro e w1 ⟨rfl, rfl⟩; rw [hb0])
            | (go_at_call 71; (with_reducible refine (zero_calls r A c g1 t h3t hle _ hg1).mono ?_); rintro e w1 ⟨rfl, rfl⟩; rw [hz]))
          go_roundg (gk - 1)
          case measure => omega
          case rel => exact ⟨t + 1, by omega, by omega, by go_num, ⟨Hnext.out, hg1, HB⟩⟩
    · obtain rfl : t = 12 := by omega
      obtain rfl : gk = 0 := by omega
      go_wp2
      go_ret
      exact ⟨ret_int Hfrom.out.symm, HB⟩

theorem may_cell : ∀ p < 3, ∀ q < 7, mayAt p q < 65536 ∧ maysL[p * 7 + q]? = some (.int .u16 (mayAt p q)) := by
  intro p hp q hq
  obtain rfl | rfl | rfl : p = 0 ∨ p = 1 ∨ p = 2 := by omega
  all_goals obtain rfl | rfl | rfl | rfl | rfl | rfl | rfl : q = 0 ∨ q = 1 ∨ q = 2 ∨ q = 3 ∨ q = 4 ∨ q = 5 ∨ q = 6 := by omega
  all_goals exact ⟨by decide, rfl⟩

set_option maxRecDepth 100000 in
theorem check_calls (r : Rec) (A : Option Addr) (c : Nat) (hf : r.Fits) (w : World) (ht : Tabs w) (hd : RB w A r.Data) :
    Calls Tryd.prog 52 #[.agg (r.cells A c)] w fun e w' => e = .returned (.int .i64 r.chk) ∧ Below w.heap.size w w' := by
  have HB := Below.refl w.heap.size w
  by_cases h1 : r.V < 1
  · have e : r.chk = 3 := if_pos (.inl h1)
    rw [e]
    have t1 : decide (r.V < 1) = true := by simp [h1]
    clear h1 e ht
    go_enter Tryd.func52, Tryd.ntmps52
    go_wp2_with (first
      | ((with_reducible refine gate_dst (N := 1) rfl ?_); refine ev_box rfl rfl (r.cells A c) rfl ?_; intro g1 W1 hg1 hsz hbn; have hgr := grown_of_below hbn; have zg1 : w.heap.size ≤ g1 := (by have := HB.size; omega); replace HB := HB.grown hgr (by have := HB.size; omega) (by simp); have hcg1 := hg1.cell; have hfg1 := hg1.frozen; clear hsz hbn hgr))
    go_ret
    exact ⟨rfl, HB⟩
  by_cases h2 : 3 < r.V
  · have e : r.chk = 3 := if_pos (.inr h2)
    rw [e]
    have t1 : decide (r.V < 1) = false := by simp; omega
    have t2 : decide (3 < r.V) = true := by simp [h2]
    clear h1 h2 e ht
    go_enter Tryd.func52, Tryd.ntmps52
    go_wp2_with (first
      | ((with_reducible refine gate_dst (N := 1) rfl ?_); refine ev_box rfl rfl (r.cells A c) rfl ?_; intro g1 W1 hg1 hsz hbn; have hgr := grown_of_below hbn; have zg1 : w.heap.size ≤ g1 := (by have := HB.size; omega); replace HB := HB.grown hgr (by have := HB.size; omega) (by simp); have hcg1 := hg1.cell; have hfg1 := hg1.frozen; clear hsz hbn hgr))
    go_ret
    exact ⟨rfl, HB⟩
  have h12 : ¬ (r.V < 1 ∨ 3 < r.V) := by omega
  by_cases h3 : r.Kind < 1
  · have e : r.chk = 31 := by unfold Rec.chk; rw [if_neg h12, if_pos (.inl h3)]
    rw [e]
    have t1 : decide (r.V < 1) = false := by simp; omega
    have t2 : decide (3 < r.V) = false := by simp; omega
    have t3 : decide (r.Kind < 1) = true := by simp [h3]
    clear h1 h2 h12 h3 e ht
    go_enter Tryd.func52, Tryd.ntmps52
    go_wp2_with (first
      | ((with_reducible refine gate_dst (N := 1) rfl ?_); refine ev_box rfl rfl (r.cells A c) rfl ?_; intro g1 W1 hg1 hsz hbn; have hgr := grown_of_below hbn; have zg1 : w.heap.size ≤ g1 := (by have := HB.size; omega); replace HB := HB.grown hgr (by have := HB.size; omega) (by simp); have hcg1 := hg1.cell; have hfg1 := hg1.frozen; clear hsz hbn hgr))
    go_ret
    exact ⟨rfl, HB⟩
  by_cases h4 : 7 < r.Kind
  · have e : r.chk = 31 := by unfold Rec.chk; rw [if_neg h12, if_pos (.inr h4)]
    rw [e]
    have t1 : decide (r.V < 1) = false := by simp; omega
    have t2 : decide (3 < r.V) = false := by simp; omega
    have t3 : decide (r.Kind < 1) = false := by simp; omega
    have t4 : decide (7 < r.Kind) = true := by simp [h4]
    clear h1 h2 h12 h3 h4 e ht
    go_enter Tryd.func52, Tryd.ntmps52
    go_wp2_with (first
      | ((with_reducible refine gate_dst (N := 1) rfl ?_); refine ev_box rfl rfl (r.cells A c) rfl ?_; intro g1 W1 hg1 hsz hbn; have hgr := grown_of_below hbn; have zg1 : w.heap.size ≤ g1 := (by have := HB.size; omega); replace HB := HB.grown hgr (by have := HB.size; omega) (by simp); have hcg1 := hg1.cell; have hfg1 := hg1.frozen; clear hsz hbn hgr))
    go_ret
    exact ⟨rfl, HB⟩
  have h34 : ¬ (r.Kind < 1 ∨ 7 < r.Kind) := by omega
  by_cases h5 : r.Saga < 1
  · have e : r.chk = 32 := by unfold Rec.chk; rw [if_neg h12, if_neg h34, if_pos h5]
    rw [e]
    have t1 : decide (r.V < 1) = false := by simp; omega
    have t2 : decide (3 < r.V) = false := by simp; omega
    have t3 : decide (r.Kind < 1) = false := by simp; omega
    have t4 : decide (7 < r.Kind) = false := by simp; omega
    have t5 : decide (r.Saga < 1) = true := by simp [h5]
    clear h1 h2 h12 h3 h4 h34 h5 e ht
    go_enter Tryd.func52, Tryd.ntmps52
    go_wp2_with (first
      | ((with_reducible refine gate_dst (N := 1) rfl ?_); refine ev_box rfl rfl (r.cells A c) rfl ?_; intro g1 W1 hg1 hsz hbn; have hgr := grown_of_below hbn; have zg1 : w.heap.size ≤ g1 := (by have := HB.size; omega); replace HB := HB.grown hgr (by have := HB.size; omega) (by simp); have hcg1 := hg1.cell; have hfg1 := hg1.frozen; clear hsz hbn hgr))
    go_ret
    exact ⟨rfl, HB⟩
  have e : r.chk = r.fromE (mayAt (r.V - 1).toNat (r.Kind - 1).toNat) 9 3 := by unfold Rec.chk Rec.tagsOf; rw [if_neg h12, if_neg h34, if_neg h5]
  rw [e]
  obtain ⟨m1, m2⟩ := may_cell (r.V - 1).toNat (by omega) (r.Kind - 1).toNat (by omega)
  exact checkIn_calls r A c _ _ (by omega) (by omega) (by omega) (by omega) (by omega) hf w ht hd m1 m2
end Go.Proofs.YtikodgaomhmbmaaDoor
