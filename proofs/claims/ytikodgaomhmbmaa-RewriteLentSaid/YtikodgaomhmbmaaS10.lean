/-
  The walk of annalslaw12.Marks.hold.
-/
import Derived.Test.YtikodgaomhmbmaaS9
set_option linter.unusedVariables false
set_option linter.unusedSimpArgs false
namespace Go.Proofs.Ytikodgaomhmbmaa
open Go.RowKit

def HoldSaid (Pr : Nat → Prop) (base : Nat) (w : World) (g n m : Nat) (a0 a1 a2 a3 : AC) (ls : List BA) (rs : List GA) (ss : List Int) (e : Ending) (w' : World) : Prop :=
  e = .returned (.bool true) ∧ Aside ((∃ a4 a5 xs ys, Mk Pr base w' g n m n m a0 a1 a2 a3 a4 a5 ls xs rs ys ss) ∧ KX Pr w w')
section
variable {Pr : Nat → Prop} {base : Nat} {w : World} {g n m x y : Nat} {a0 a1 a2 a3 a4 a5 : AC} {ls xs : List BA} {rs ys : List GA} {ss : List Int}
theorem Mk.drewN (h : Mk Pr base w g n m x y a0 a1 a2 a3 a4 a5 ls xs rs ys ss) (k : Nat) : Mk Pr base (w.drewN k) g n m x y a0 a1 a2 a3 a4 a5 ls xs rs ys ss := h.next (below_drewN (Below.refl _ _) k)
theorem KX.drewN {w w' : World} (h : KX Pr w w') (k : Nat) : KX Pr w (w'.drewN k) := h.next (below_drewN (Below.refl _ _) k)
theorem Mk.byteL (h : Mk Pr base w g n m x y a0 a1 a2 a3 a4 a5 ls xs rs ys ss) {i j : Nat} {b : List UInt8} {A : Option Addr} {c : Nat} (hx : ls[i]? = some (b, A, c)) (hj : j < b.length) : ∃ gi, A = some ⟨gi, 0, none⟩ ∧ w.cell? ⟨gi, j, none⟩ = some (.int .u8 (UInt8.ofNat (1 + i % 250)).toNat) := by
  have h1 := h.V1.all (i, b, A, c) (List.mem_append_left _ (tagged_mem.2 hx))
  obtain ⟨gi, hg, _⟩ := h1.at_ (by simp only; omega)
  simp only at hg
  subst hg
  obtain ⟨e, _⟩ := h.bl i _ hx
  simp only at e
  exact ⟨gi, rfl, ob_cell h1 (by simp only; rw [e]; exact MK_get hj)⟩
theorem Mk.byteX (h : Mk Pr base w g n m x y a0 a1 a2 a3 a4 a5 ls xs rs ys ss) {i j k : Nat} {b : List UInt8} {A : Option Addr} {c : Nat} (hx : xs[i]? = some (b, A, c)) (hb : b = MK i k) (hj : j < k) : ∃ gi, A = some ⟨gi, 0, none⟩ ∧ w.cell? ⟨gi, j, none⟩ = some (.int .u8 (UInt8.ofNat (1 + i % 250)).toNat) := by
  have h1 := h.V1.all (i, b, A, c) (List.mem_append_right _ (tagged_mem.2 hx))
  obtain ⟨gi, hg, _⟩ := h1.at_ (by simp only; rw [hb, MK_len]; omega)
  simp only at hg
  subst hg
  exact ⟨gi, rfl, ob_cell h1 (by simp only; rw [hb]; exact MK_get hj)⟩
theorem Mk.sagaR (h : Mk Pr base w g n m x y a0 a1 a2 a3 a4 a5 ls xs rs ys ss) {i j : Nat} {s : Int} {cs : List Value} {k : Nat} {A : Option Addr} {c : Nat} (hx : rs[i]? = some (cs, k, A, c)) (hs : ss[i]? = some s) (hj : j < k) : ∃ gi, A = some ⟨gi, 0, none⟩ ∧ w.cell? ⟨gi, j * 12 + 2, none⟩ = some (.int .i64 s) := by
  have h1 := h.J1.all (i, cs, k, A, c) (List.mem_append_left _ (taggedG_mem.2 hx))
  unfold GA.val at h1
  simp only at h1
  obtain ⟨gi, hg, _⟩ := own_at h1 (by omega)
  subst hg
  exact ⟨gi, rfl, own_cellN h1 _ ((h.rl i _ s hx hs).1.2 j hj)⟩
theorem Mk.sagaY (h : Mk Pr base w g n m x y a0 a1 a2 a3 a4 a5 ls xs rs ys ss) {i j : Nat} {s : Int} {cs : List Value} {k : Nat} {A : Option Addr} {c : Nat} (hx : ys[i]? = some (cs, k, A, c)) (hsg : SagaC cs k s) (hj : j < k) : ∃ gi, A = some ⟨gi, 0, none⟩ ∧ w.cell? ⟨gi, j * 12 + 2, none⟩ = some (.int .i64 s) := by
  have h1 := h.J1.all (i, cs, k, A, c) (List.mem_append_right _ (taggedG_mem.2 hx))
  unfold GA.val at h1
  simp only at h1
  obtain ⟨gi, hg, _⟩ := own_at h1 (by omega)
  subst hg
  exact ⟨gi, rfl, own_cellN h1 _ (hsg.2 j hj)⟩
end

set_option maxHeartbeats 8000000 in
set_option maxRecDepth 100000 in
theorem hold_calls (Pr : Nat → Prop) (base : Nat) (w : World) (g0 n m x y : Nat) (a0 a1 a2 a3 a4 a5 : AC) (ls xs : List BA) (rs ys : List GA) (ss : List Int) (hM : Mk Pr base w g0 n m x y a0 a1 a2 a3 a4 a5 ls xs rs ys ss) (hP : ∀ k, Pr k → k < w.heap.size) (hb1 : n ≤ 100000000) (hb2 : m ≤ 1000000) :
    Calls Try.prog 11 #[.pointer (some ⟨g0, 0, none⟩)] w (HoldSaid Pr base w g0 n m a0 a1 a2 a3 ls rs ss) := by
  have Hc := Lib.hid (grow_calls Pr base w g0 n m x y a0 a1 a2 a3 a4 a5 ls xs rs ys ss hM hP hb1 hb2)
  obtain ⟨A0, c0⟩ := a0
  obtain ⟨A1, c1⟩ := a1
  obtain ⟨A2, c2⟩ := a2
  obtain ⟨A3, c3⟩ := a3
  clear hM hP
  unfold HoldSaid
  go_enter Try.func11, Try.ntmps11
  go_wp2_with (first
    | (go_at_call 10; (with_reducible refine Hc.out.mono ?_); rintro e W1 ⟨rfl, HE⟩))
  obtain ⟨⟨A4, c4⟩, ⟨A5, c5⟩, us, vs, hM, hK⟩ := HE.out
  clear HE Hc
  have HMK := Lib.hid (And.intro hM hK)
  clear hM hK
  go_loopg [3] n (fun k v3 wr => ∃ (i : Nat), k + i = n ∧ v3 = .int .i64 i ∧ Aside (Mk Pr base wr g0 n m n m (A0, c0) (A1, c1) (A2, c2) (A3, c3) (A4, c4) (A5, c5) ls us rs vs ss ∧ KX Pr w wr))
  case atStart => exact ⟨0, by omega, rfl, HMK.out⟩
  case round =>
    clear HMK
    obtain ⟨gm, rfl⟩ : ∃ gm, gm = gk := ⟨_, rfl⟩
    obtain ⟨i, hm, rfl, HA⟩ := hrel
    obtain ⟨hM, hK⟩ := HA.out
    clear HA
    have hcg0 := hM.hg.cell
    by_cases hlt : i < n
    · have s1 : decide ((i : Int) < (n : Int)) = true := by rw [decide_eq_true_eq]; omega
      have s1' : decide (i < n) = true := by rw [decide_eq_true_eq]; exact hlt
      have HMK := Lib.hid (And.intro hM hK)
      obtain ⟨q, hx⟩ : ∃ q, ls[i]? = some q := ⟨_, List.getElem?_eq_getElem (by rw [hM.lls]; exact hlt)⟩
      obtain ⟨p, hp⟩ : ∃ p, us[i]? = some p := ⟨_, List.getElem?_eq_getElem (by rw [hM.lxs]; exact hlt)⟩
      obtain ⟨u, hu, hpb⟩ := hM.bx i p hp
      rw [hx] at hu
      injection hu with hu
      subst hu
      obtain ⟨_, hq2⟩ := hM.bl i _ hx
      obtain ⟨b, Ai, ci⟩ := q
      obtain ⟨pb, Pi, pc⟩ := p
      obtain ⟨nb, hnb⟩ : ∃ nb, b.length = nb := ⟨_, rfl⟩
      simp only at hpb hq2
      rw [hnb] at hpb hq2
      obtain ⟨nz, hnz⟩ : ∃ nz, nz = 2 * nb + 70 := ⟨_, rfl⟩
      rw [← hnz] at hpb
      have hpl : pb.length = nz := by rw [hpb, MK_len]
      obtain ⟨gL, hgL, _⟩ := own_at hM.o0 (by omega)
      simp only at hgL
      subst hgL
      obtain ⟨gX, hgX, _⟩ := own_at hM.o4 (by omega)
      simp only at hgX
      subst hgX
      obtain ⟨gB, hgB, _⟩ := hM.B1.at_ (by rw [mks_len]; omega)
      simp only at hgB
      subst hgB
      have Hx := Lib.hid hx
      have Hp := Lib.hid hp
      have Hnb := Lib.hid hnb
      have Hpb := Lib.hid hpb
      have Hpl := Lib.hid hpl
      clear hx hp hnb hpb hpl hM hK
      go_wp2
      clear hcg0
      go_loopg [4] nz (fun k v4 wr => ∃ (j : Nat), k + j = nz ∧ v4 = .int .i64 j ∧ Aside (Mk Pr base wr g0 n m n m (some ⟨gL, 0, none⟩, c0) (some ⟨gB, 0, none⟩, c1) (A2, c2) (A3, c3) (some ⟨gX, 0, none⟩, c4) (A5, c5) ls us rs vs ss ∧ KX Pr w wr))
      case atStart => exact ⟨0, by omega, rfl, HMK.out⟩
      case round =>
        clear HMK
        obtain ⟨j, hmj, rfl, HA⟩ := hrel
        obtain ⟨hM, hK⟩ := HA.out
        clear HA
        have hcg0 := hM.hg.cell
        have hcX := own_cellN hM.o4 i (baCells_get Hp.out)
        simp only [Hpl.out] at hcX
        by_cases hj : j < nz
        · have q1 : decide ((j : Int) < (nz : Int)) = true := by rw [decide_eq_true_eq]; omega
          have q1' : decide (j < nz) = true := by rw [decide_eq_true_eq]; exact hj
          have hcL := own_cellN hM.o0 i (baCells_get Hx.out)
          simp only [Hnb.out] at hcL
          have hcB := ob_cell hM.B1 (mks_get hlt)
          obtain ⟨gp, hgp, hcp⟩ := hM.byteX Hp.out Hpb.out hj
          subst hgp
          have HMK := Lib.hid (And.intro hM hK)
          by_cases hjn : j < nb
          · have q3 : decide ((j : Int) < (nb : Int)) = true := by rw [decide_eq_true_eq]; omega
            have q3' : decide (j < nb) = true := by rw [decide_eq_true_eq]; exact hjn
            obtain ⟨gl, hgl, hcl⟩ := hM.byteL Hx.out (j := j) (by rw [Hnb.out]; exact hjn)
            subst hgl
            generalize UInt8.ofNat (1 + i % 250) = mb at hcB hcp hcl
            clear hM hK
            go_wp2
            go_quiet (fail)
            go_wp2
            go_roundg (gk - 1)
            case measure => omega
            case rel => exact ⟨j + 1, by omega, by go_num, HMK.out.1.drewN _, HMK.out.2.drewN _⟩
          · have q3 : decide ((j : Int) < (nb : Int)) = false := by rw [decide_eq_false_iff_not]; omega
            have q3' : decide (j < nb) = false := by rw [decide_eq_false_iff_not]; exact hjn
            generalize UInt8.ofNat (1 + i % 250) = mb at hcB hcp
            clear hM hK
            go_wp2
            go_quiet (fail)
            go_wp2
            go_roundg (gk - 1)
            case measure => omega
            case rel => exact ⟨j + 1, by omega, by go_num, HMK.out.1.drewN _, HMK.out.2.drewN _⟩
        · have q1 : decide ((j : Int) < (nz : Int)) = false := by rw [decide_eq_false_iff_not]; omega
          have q1' : decide (j < nz) = false := by rw [decide_eq_false_iff_not]; exact hj
          have HMK := Lib.hid (And.intro hM hK)
          clear hM hK
          go_wp2
          go_roundg (gm - 1)
          case measure => omega
          case rel => exact ⟨i + 1, by omega, by go_num, HMK.out⟩
    · have e0 : n = i := by omega
      subst e0
      have s1 : decide ((n : Int) < (n : Int)) = false := by simp
      have s1' : decide (n < n) = false := by simp
      have HMK := Lib.hid (And.intro hM hK)
      clear hM hK
      go_wp2
      clear hcg0
      go_loopg [5] m (fun k v5 wr => ∃ (i : Nat), k + i = m ∧ v5 = .int .i64 i ∧ Aside (Mk Pr base wr g0 n m n m (A0, c0) (A1, c1) (A2, c2) (A3, c3) (A4, c4) (A5, c5) ls us rs vs ss ∧ KX Pr w wr))
      case atStart => exact ⟨0, by omega, rfl, HMK.out⟩
      case round =>
        clear HMK
        obtain ⟨gm2, rfl⟩ : ∃ gm2, gm2 = gk := ⟨_, rfl⟩
        obtain ⟨i, hm2, rfl, HA⟩ := hrel
        obtain ⟨hM, hK⟩ := HA.out
        clear HA
        have hcg0 := hM.hg.cell
        by_cases hlt : i < m
        · have s2 : decide ((i : Int) < (m : Int)) = true := by rw [decide_eq_true_eq]; omega
          have s2' : decide (i < m) = true := by rw [decide_eq_true_eq]; exact hlt
          have HMK := Lib.hid (And.intro hM hK)
          obtain ⟨p, hp⟩ : ∃ p, vs[i]? = some p := ⟨_, List.getElem?_eq_getElem (by rw [hM.lys]; exact hlt)⟩
          obtain ⟨s, hs⟩ : ∃ s, ss[i]? = some s := ⟨_, List.getElem?_eq_getElem (by rw [hM.lss]; exact hlt)⟩
          obtain ⟨q, hx, hpn, hsg⟩ := hM.ry i p s hp hs
          obtain ⟨_, hq2⟩ := hM.rl i _ s hx hs
          obtain ⟨cs, nb, Ai, ci⟩ := q
          obtain ⟨ps, nz, Pi, pc⟩ := p
          simp only at hpn hsg hq2
          obtain ⟨gL, hgL, _⟩ := own_at hM.o2 (by omega)
          simp only at hgL
          subst hgL
          obtain ⟨gX, hgX, _⟩ := own_at hM.o5 (by omega)
          simp only at hgX
          subst hgX
          obtain ⟨gB, hgB, _⟩ := own_at hM.o3 (by omega)
          simp only at hgB
          subst hgB
          have Hx := Lib.hid hx
          have Hp := Lib.hid hp
          have Hs := Lib.hid hs
          have Hsg := Lib.hid hsg
          clear hx hp hs hsg hM hK
          go_wp2
          clear hcg0
          go_loopg [6] nz (fun k v6 wr => ∃ (j : Nat), k + j = nz ∧ v6 = .int .i64 j ∧ Aside (Mk Pr base wr g0 n m n m (A0, c0) (A1, c1) (some ⟨gL, 0, none⟩, c2) (some ⟨gB, 0, none⟩, c3) (A4, c4) (some ⟨gX, 0, none⟩, c5) ls us rs vs ss ∧ KX Pr w wr))
          case atStart => exact ⟨0, by omega, rfl, HMK.out⟩
          case round =>
            clear HMK
            obtain ⟨j, hmj, rfl, HA⟩ := hrel
            obtain ⟨hM, hK⟩ := HA.out
            clear HA
            have hcg0 := hM.hg.cell
            have hcX := own_cellN hM.o5 i (gaCells_get Hp.out)
            simp only [GA.val] at hcX
            by_cases hj : j < nz
            · have q1 : decide ((j : Int) < (nz : Int)) = true := by rw [decide_eq_true_eq]; omega
              have q1' : decide (j < nz) = true := by rw [decide_eq_true_eq]; exact hj
              have hcL := own_cellN hM.o2 i (gaCells_get Hx.out)
              simp only [GA.val] at hcL
              have hcB := own_cellN hM.o3 i (inC_get Hs.out)
              obtain ⟨gp, hgp, hcp⟩ := hM.sagaY Hp.out Hsg.out hj
              subst hgp
              have HMK := Lib.hid (And.intro hM hK)
              by_cases hjn : j < nb
              · have q3 : decide ((j : Int) < (nb : Int)) = true := by rw [decide_eq_true_eq]; omega
                have q3' : decide (j < nb) = true := by rw [decide_eq_true_eq]; exact hjn
                obtain ⟨gl, hgl, hcl⟩ := hM.sagaR Hx.out Hs.out (j := j) hjn
                subst hgl
                clear hM hK
                go_wp2
                go_quiet (fail)
                go_wp2
                go_roundg (gk - 1)
                case measure => omega
                case rel => exact ⟨j + 1, by omega, by go_num, HMK.out.1.drewN _, HMK.out.2.drewN _⟩
              · have q3 : decide ((j : Int) < (nb : Int)) = false := by rw [decide_eq_false_iff_not]; omega
                have q3' : decide (j < nb) = false := by rw [decide_eq_false_iff_not]; exact hjn
                clear hM hK
                go_wp2
                go_quiet (fail)
                go_wp2
                go_roundg (gk - 1)
                case measure => omega
                case rel => exact ⟨j + 1, by omega, by go_num, HMK.out.1.drewN _, HMK.out.2.drewN _⟩
            · have q1 : decide ((j : Int) < (nz : Int)) = false := by rw [decide_eq_false_iff_not]; omega
              have q1' : decide (j < nz) = false := by rw [decide_eq_false_iff_not]; exact hj
              have HMK := Lib.hid (And.intro hM hK)
              clear hM hK
              go_wp2
              go_roundg (gm2 - 1)
              case measure => omega
              case rel => exact ⟨i + 1, by omega, by go_num, HMK.out⟩
        · have s2 : decide ((i : Int) < (m : Int)) = false := by rw [decide_eq_false_iff_not]; omega
          have s2' : decide (i < m) = false := by rw [decide_eq_false_iff_not]; exact hlt
          have HMK := Lib.hid (And.intro hM hK)
          clear hM hK
          go_wp2
          go_ret
          exact ⟨rfl, ⟨⟨A4, c4, A5, c5, us, vs, HMK.out.1⟩, HMK.out.2⟩⟩
end Go.Proofs.Ytikodgaomhmbmaa
