/-
  annalslaw12.turned: one record of the lent list is changed in place.
-/
import Derived.Test.YtikodgaomhmbmaaS11
import Derived.Deep.DeepCutAuto
import Derived.StillTailTactics
set_option linter.unusedVariables false
set_option linter.unusedSimpArgs false
namespace Go.Proofs.Ytikodgaomhmbmaa
open Go.RowKit
attribute [local go_sem] Rec.size_ Rec.g0 Rec.g1 Rec.g2 Rec.g3 Rec.g4 Rec.g5 Rec.g6 Rec.g7 Rec.g8 Rec.g9 Rec.g10 Rec.g11 Rec.fold Rec.lit_fold

/-- What stands behind the lent list. -/
def tail7 : Rec := { Rec.zero with V := -7, Kind := -77 }
def tail8 : Rec := { Rec.zero with V := -8, Kind := -78 }
def tails : List RA := [(tail7, none, 0), (tail8, none, 0)]
/-- The lent list, with two records behind it; each record's data is cut out of a longer row of its own. -/
structure Mn (w : World) (base n : Nat) (A : Option Addr) (c : Nat) (os : List RA) : Prop where
  len : os.length = n
  row : w.ownsRow base 25 12 (.slice A (n + 2) c) (n + 2) (recCells (os ++ tails))
  dat : OBs w base (longs os)
  small : ∀ x ∈ os, x.1.Fits ∧ x.1.Data.length ≤ 2000 ∧ sagaWf x.1
theorem set_self {α : Type} {l : List α} {i : Nat} {x : α} (h : l[i]? = some x) : l.set i x = l := by
  obtain ⟨hl, rfl⟩ := List.getElem?_eq_some_iff.1 h
  simp
theorem longs_set (os : List RA) (i : Nat) (x : RA) : longs (os.set i x) = (longs os).set i (x.1.Data ++ pad3, x.2.1, x.2.2) := by unfold longs; rw [List.map_set]
theorem longs_set_same {os : List RA} {i : Nat} {x x' : RA} (h : os[i]? = some x) (hd : (x'.1.Data, x'.2.1, x'.2.2) = (x.1.Data, x.2.1, x.2.2)) : longs (os.set i x') = longs os := by
  simp only [Prod.mk.injEq] at hd
  obtain ⟨e1, e3, e4⟩ := hd
  rw [longs_set, e1, e3, e4]
  obtain ⟨hl, e⟩ := List.getElem?_eq_some_iff.1 (longs_get h)
  rw [← e]
  simp
theorem Mn.next {w w' : World} {base n c : Nat} {A : Option Addr} {os : List RA} (h : Mn w base n A c os) (hb : Below w.heap.size w w') : Mn w' base n A c os := ⟨h.len, own_next h.row hb, h.dat.next hb, h.small⟩
theorem Mn.get {w : World} {base n c : Nat} {A : Option Addr} {os : List RA} (h : Mn w base n A c os) {i : Nat} {x : RA} (hi : os[i]? = some x) : (os ++ tails)[i]? = some x := by
  rw [List.getElem?_append_left (List.getElem?_eq_some_iff.1 hi).1]
  exact hi
theorem Mn.rr {w : World} {base n c : Nat} {A : Option Addr} {os : List RA} (h : Mn w base n A c os) : RR w A os := by
  have h1 : Reads w w.heap.size 12 A (os ++ tails).length (recCells (os ++ tails)) := by
    have := Reads.of_own h.row
    rwa [show (os ++ tails).length = n + 2 by rw [List.length_append, h.len]; rfl]
  refine ⟨⟨by rw [recCells_length], fun hn => ?_⟩, fun x hx => ?_⟩
  · obtain ⟨ad, e, hb, hc⟩ := h1.2 (by rw [List.length_append]; omega)
    refine ⟨ad, e, hb, fun j u hu => hc j u ?_⟩
    have hj : j < (recCells os).length := (List.getElem?_eq_some_iff.1 hu).1
    rw [recCells_append, List.getElem?_append_left hj]
    exact hu
  · exact (h.dat.all (x.1.Data ++ pad3, x.2.1, x.2.2) (List.mem_map.2 ⟨x, hx, rfl⟩)).rb.begin_
theorem Mn.field {w w' : World} {base n c g i f : Nat} {os : List RA} {x x' : RA} {v : Value} (h : Mn w base n (some ⟨g, 0, none⟩) c os) (hi : os[i]? = some x) (hc : x'.cs = x.cs.set f v) (hf : f < 12) (hn : x'.1.Name = x.1.Name) (hd : x'.1.Data = x.1.Data) (ha : x'.2 = x.2) (hw : sagaWf x'.1)
    (ho : w'.ownsRow base 25 12 (.slice (some ⟨g, 0, none⟩) (n + 2) c) (n + 2) ((recCells (os ++ tails)).set (i * 12 + f) v)) (hgr : w.grownBy w' (Value.slice (some ⟨g, 0, none⟩) (n + 2) c).ownBlock) : Mn w' base n (some ⟨g, 0, none⟩) c (os.set i x') ∧ longs (os.set i x') = longs os := by
  have hil : i < os.length := (List.getElem?_eq_some_iff.1 hi).1
  have hlo : longs (os.set i x') = longs os := longs_set_same hi (by rw [hd, ha])
  refine ⟨⟨by rw [List.length_set]; exact h.len, ?_, ?_, fun y hy => ?_⟩, hlo⟩
  · rw [← List.set_append_left _ _ hil, recCells_set f v (h.get hi) hc hf]
    exact ho
  · rw [hlo]
    exact h.dat.kept hgr (h.dat.ne_own h.row (by decide))
  · rcases List.mem_or_eq_of_mem_set hy with hy | rfl
    · exact h.small y hy
    · have h1 := h.small x (List.mem_of_getElem? hi)
      exact ⟨⟨by rw [hn]; exact h1.1.name, by rw [hd]; exact h1.1.data⟩, by rw [hd]; exact h1.2.1, hw⟩
theorem Mn.byte {w w' : World} {base n c g i g8 c8 : Nat} {os : List RA} {r : Rec} {b : UInt8} (h : Mn w base n (some ⟨g, 0, none⟩) c os) (hi : os[i]? = some (r, some ⟨g8, 0, none⟩, c8)) (hl : 0 < r.Data.length)
    (ho : OB w' base (some ⟨g8, 0, none⟩) c8 ((r.Data ++ pad3).set 0 b)) (hgr : w.grownBy w' (some g8)) : Mn w' base n (some ⟨g, 0, none⟩) c (os.set i ({ r with Data := r.Data.set 0 b }, some ⟨g8, 0, none⟩, c8)) ∧ longs (os.set i ({ r with Data := r.Data.set 0 b }, some ⟨g8, 0, none⟩, c8)) = (longs os).set i ((r.Data ++ pad3).set 0 b, some ⟨g8, 0, none⟩, c8) := by
  have hil : i < os.length := (List.getElem?_eq_some_iff.1 hi).1
  have hcs : RA.cs ({ r with Data := r.Data.set 0 b }, some ⟨g8, 0, none⟩, c8) = RA.cs (r, some ⟨g8, 0, none⟩, c8) := by simp [RA.cs, Rec.cells]
  have hmem := h.dat.all _ (List.mem_of_getElem? (longs_get hi))
  have hlo : longs (os.set i ({ r with Data := r.Data.set 0 b }, some ⟨g8, 0, none⟩, c8)) = (longs os).set i ((r.Data ++ pad3).set 0 b, some ⟨g8, 0, none⟩, c8) := by
    rw [longs_set, List.set_append_left _ _ hl]
  refine ⟨⟨by rw [List.length_set]; exact h.len, ?_, ?_, fun y hy => ?_⟩, hlo⟩
  · have e : recCells (os.set i ({ r with Data := r.Data.set 0 b }, some ⟨g8, 0, none⟩, c8) ++ tails) = recCells (os ++ tails) := by
      rw [← List.set_append_left _ _ hil]
      have := recCells_set (os := os ++ tails) (i := i) (x := (r, some ⟨g8, 0, none⟩, c8)) (x' := ({ r with Data := r.Data.set 0 b }, some ⟨g8, 0, none⟩, c8)) 0 (.int .i64 r.V) (h.get hi) (by rw [hcs]; rfl) (by decide)
      rw [this]
      have hr := recCells_get (h.get hi) 0 (by decide)
      obtain ⟨hl2, e2⟩ := List.getElem?_eq_some_iff.1 (hr.trans (Rec.g0 _ _ _))
      rw [← e2]
      simp
    rw [e]
    refine h.row.kept hgr (.inr fun e3 => ?_)
    exact hmem.ne_own h.row (by decide) ⟨g8, 0, none⟩ rfl e3.symm
  · rw [hlo]
    exact h.dat.set_ (longs_get hi) ho hgr
  · rcases List.mem_or_eq_of_mem_set hy with hy | rfl
    · exact h.small y hy
    · have h1 := h.small _ (List.mem_of_getElem? hi)
      exact ⟨⟨h1.1.name, by simp only [List.length_set]; exact h1.1.data⟩, by simp only [List.length_set]; exact h1.2.1, h1.2.2⟩

/-- A change. -/
structure Trn where
  at_ : Int
  kind : Int
  by_ : Int
def Trn.cells (t : Trn) : Array Value := #[.int .i64 t.at_, .int .i64 t.kind, .int .i64 t.by_]
section
variable (t : Trn)
theorem Trn.size_ : t.cells.size = 3 := rfl
theorem Trn.g0 : t.cells[0]? = some (.int .i64 t.at_) := rfl
theorem Trn.g1 : t.cells[1]? = some (.int .i64 t.kind) := rfl
theorem Trn.g2 : t.cells[2]? = some (.int .i64 t.by_) := rfl
end
attribute [local go_sem] Trn.size_ Trn.g0 Trn.g1 Trn.g2
/-- What stays when the lent list is changed. -/
def Lends (A : Option Addr) (n c : Nat) (os : List RA) (w w' : World) : Prop :=
  ∀ Pr : Nat → Prop, (∀ k, Pr k → k < w.heap.size) → (∀ k, (Value.slice A (n + 2) c).ownBlock = some k → ¬ Pr k) → (∀ x ∈ longs os, ∀ ad, x.2.1 = some ad → ¬ Pr ad.block) → KX Pr w w'
def TurnSaid (w : World) (base n : Nat) (A : Option Addr) (c : Nat) (os : List RA) (e : Ending) (w' : World) : Prop :=
  e = .returned (.tuple #[]) ∧ Aside (∃ os', Mn w' base n A c os' ∧ (longs os').map (·.2) = (longs os).map (·.2) ∧ Lends A n c os w w')
theorem turn_kept {w w' : World} {base n c : Nat} {A : Option Addr} {os : List RA} (hM : Mn w base n A c os) (hb : Below w.heap.size w w') : TurnSaid w base n A c os (.returned (.tuple #[])) w' :=
  ⟨rfl, os, hM.next hb, rfl, fun Pr h _ _ => (KX.refl h).next hb⟩
theorem turn_field {w w1 w' : World} {base n c g i f : Nat} {os : List RA} {x x' : RA} {v : Value} (hM : Mn w base n (some ⟨g, 0, none⟩) c os) (hb : Below w.heap.size w w1) (hi : os[i]? = some x) (hc : x'.cs = x.cs.set f v) (hf : f < 12) (hn : x'.1.Name = x.1.Name) (hd : x'.1.Data = x.1.Data) (ha : x'.2 = x.2) (hw : sagaWf x'.1)
    (ho : w'.ownsRow base 25 12 (.slice (some ⟨g, 0, none⟩) (n + 2) c) (n + 2) ((recCells (os ++ tails)).set (i * 12 + f) v)) (hgr : w1.grownBy w' (Value.slice (some ⟨g, 0, none⟩) (n + 2) c).ownBlock) : TurnSaid w base n (some ⟨g, 0, none⟩) c os (.returned (.tuple #[])) w' := by
  obtain ⟨h1, h2⟩ := (hM.next hb).field hi hc hf hn hd ha hw ho hgr
  exact ⟨rfl, _, h1, by rw [h2], fun Pr h k1 k2 => ((KX.refl h).next hb).kept hgr k1⟩
theorem turn_byte {w w1 w' : World} {base n c g i g8 c8 : Nat} {os : List RA} {r : Rec} {b : UInt8} (hM : Mn w base n (some ⟨g, 0, none⟩) c os) (hb : Below w.heap.size w w1) (hi : os[i]? = some (r, some ⟨g8, 0, none⟩, c8)) (hl : 0 < r.Data.length)
    (ho : OB w' base (some ⟨g8, 0, none⟩) c8 ((r.Data ++ pad3).set 0 b)) (hgr : w1.grownBy w' (some g8)) : TurnSaid w base n (some ⟨g, 0, none⟩) c os (.returned (.tuple #[])) w' := by
  obtain ⟨h1, h2⟩ := (hM.next hb).byte hi hl ho hgr
  refine ⟨rfl, _, h1, ?_, fun Pr h k1 k2 => ((KX.refl h).next hb).kept hgr (fun k e => by injection e with e; subst e; exact k2 _ (List.mem_of_getElem? (longs_get hi)) ⟨g8, 0, none⟩ rfl)⟩
  rw [h2, List.map_set]
  exact set_self (by rw [List.getElem?_map, longs_get hi]; rfl)
theorem wrap_byte (y : Int) : ∃ b : UInt8, IntKind.u8.wrap y = (b.toNat : Int) := by
  refine ⟨UInt8.ofNat (y % 256).toNat, ?_⟩
  rw [IntKind.wrap_u8, UInt8.toNat_ofNat']
  omega
theorem spot_lt (q : Int) (n : Nat) (h : 0 < n) : -(n : Int) < q.tmod n ∧ q.tmod n < n := ⟨Int.lt_tmod_of_pos q (by omega), Int.tmod_lt_of_pos q (by omega)⟩

set_option maxHeartbeats 4000000 in
set_option maxRecDepth 100000 in
theorem turned_calls (t : Trn) (ht : (Lit.int .i64 t.by_).wf = true) (os : List RA) (n : Nat) (A : Option Addr) (c base : Nat) (hn : n ≤ 100) (w : World) (hM : Mn w base n A c os) :
    Calls Try.prog 13 #[.slice A n c, .agg t.cells] w (TurnSaid w base n A c os) := by
  have HB := Below.refl w.heap.size w
  by_cases h0 : n = 0
  · subst h0
    go_enter Try.func13, Try.ntmps13
    go_wp2_with (first
      | ((with_reducible refine gate_dst (N := 3) rfl ?_); refine ev_box rfl rfl (t.cells) rfl ?_; intro g1 W1 hg1 hsz hbn; have hgr := grown_of_below hbn; have zg1 : w.heap.size ≤ g1 := (by have := HB.size; omega); replace HB := HB.grown hgr (by have := HB.size; omega) (by simp); have hcg1 := hg1.cell; have hfg1 := hg1.frozen; clear hsz hbn hgr))
    go_end0
    exact turn_kept hM HB
  · obtain ⟨g, hg, _⟩ := own_at hM.row (by omega)
    subst hg
    have t1 : ((n : Int) == 0) = false := int_beq_false (by omega)
    have t1' : (n == 0) = false := by simp; omega
    obtain ⟨q, hq⟩ : ∃ q, t.at_.tmod (n : Int) = q := ⟨_, rfl⟩
    have hq2 := spot_lt t.at_ n (by omega)
    rw [hq] at hq2
    obtain ⟨hq3, hq4⟩ := hq2
    have HM := Lib.hid hM
    have Ht := Lib.hid ht
    clear hM ht
    go_enter Try.func13, Try.ntmps13
    go_upto_if 14 with (first
      | ((with_reducible refine gate_dst (N := 3) rfl ?_); refine ev_box rfl rfl (t.cells) rfl ?_; intro g1 W1 hg1 hsz hbn; have hgr := grown_of_below hbn; have zg1 : w.heap.size ≤ g1 := (by have := HB.size; omega); replace HB := HB.grown hgr (by have := HB.size; omega) (by simp); have hcg1 := hg1.cell; have hfg1 := hg1.frozen; clear hsz hbn hgr))
    go_cut [4] from 15 to 18 (fun v4 wc => ∃ p : Nat, v4 = .int .i64 p ∧ Aside (p < n ∧ wc = W1))
    case first =>
      by_cases hs : q < 0
      · have s1 : decide (q < 0) = true := by rw [decide_eq_true_eq]; exact hs
        obtain ⟨p, hp⟩ : ∃ p : Nat, q + (n : Int) = p := ⟨(q + n).toNat, by omega⟩
        go_wp2
        go_meet
        case rel => exact ⟨p, rfl, by omega, rfl⟩
      · have s1 : decide (q < 0) = false := by rw [decide_eq_false_iff_not]; exact hs
        obtain ⟨p, rfl⟩ : ∃ p : Nat, q = p := ⟨q.toNat, by omega⟩
        go_wp2
        go_meet
        case rel => exact ⟨p, rfl, by omega, rfl⟩
    case rest =>
      obtain ⟨p, rfl, HC⟩ := hcut
      obtain ⟨hpn, hw⟩ := HC.out
      obtain rfl : W1 = wc := hw.symm
      clear HC hq hq3 hq4
      have o1 := own_next HM.out.row HB
      obtain ⟨x, hx⟩ : ∃ x, os[p]? = some x := ⟨_, List.getElem?_eq_getElem (by rw [HM.out.len]; exact hpn)⟩
      have Hx := Lib.hid hx
      have hxw := (HM.out.small x (List.mem_of_getElem? hx)).2.2
      have Hxw := Lib.hid hxw
      have hpl : p * 12 + 11 < (n + 2) * 12 := by omega
      clear hx hxw hw
      by_cases hk1 : t.kind = 1
      · have k1 : (t.kind == 1) = true := int_beq_true hk1
        go_wp2_with (first
          | ((with_reducible refine gate_store (p := 34) rfl ?_); refine ev_store_ownN rfl rfl rfl o1 (k := p * 12 + 2) (by omega) rfl rfl (by kernel_rfl) (by kernel_rfl) ?_; intro W2 o2 hgr))
        go_end0
        exact turn_field HM.out HB Hx.out (x' := ({ x.1 with Saga := t.by_ }, x.2)) (f := 2) (v := .int .i64 t.by_) rfl (by decide) rfl rfl rfl Ht.out o2 hgr
      · have k1 : (t.kind == 1) = false := int_beq_false hk1
        by_cases hk2 : t.kind = 2
        · have k2 : (t.kind == 2) = true := int_beq_true hk2
          go_wp2_with (first
            | ((with_reducible refine gate_store (p := 42) rfl ?_); refine ev_store_ownN rfl rfl rfl o1 (k := p * 12 + 1) (by omega) rfl rfl (by kernel_rfl) (by kernel_rfl) ?_; intro W2 o2 hgr))
          go_end0
          exact turn_field HM.out HB Hx.out (x' := ({ x.1 with Kind := t.by_ }, x.2)) (f := 1) (v := .int .i64 t.by_) rfl (by decide) rfl rfl rfl Hxw.out o2 hgr
        · have k2 : (t.kind == 2) = false := int_beq_false hk2
          by_cases hk3 : t.kind = 3
          · have k3 : (t.kind == 3) = true := int_beq_true hk3
            obtain ⟨r, A8, c8⟩ := x
            have h11 := own_cellN o1 (p * 12 + 11) ((recCells_get (HM.out.get Hx.out) 11 (by decide)).trans (Rec.g11 _ _ _))
            by_cases hd : 0 < r.Data.length
            · have q2 : decide ((r.Data.length : Int) > 0) = true := by rw [decide_eq_true_eq]; omega
              have q2' : decide (0 < r.Data.length) = true := by rw [decide_eq_true_eq]; exact hd
              have hB := HM.out.dat.all _ (List.mem_of_getElem? (longs_get Hx.out))
              obtain ⟨g8, hg8, _⟩ := hB.at_ (by simp only [List.length_append]; omega)
              simp only at hg8
              subst hg8
              obtain ⟨bb, hbb⟩ := wrap_byte t.by_
              have B8 := hB.next HB
              have hin : 0 < (r.Data ++ pad3).length := by rw [List.length_append]; omega
              clear hB
              go_wp2
              go_still_tail 9, (by kernel_rfl)
              refine wpList_drew (fun wd hbd => ?_)
              replace o1 := own_next o1 hbd
              replace hg1 := hg1.next hbd
              replace HB := below_go HB hbd
              replace B8 := B8.next hbd
              clear h11
              go_wp2_with (first
                | ((with_reducible refine gate_store (p := 60) rfl ?_); refine ev_store_ob (b := bb) rfl rfl rfl B8 (k := 0) hin rfl rfl (by kernel_rfl) ?_; intro W2 B9 hgr))
              go_end0
              exact turn_byte HM.out HB Hx.out hd B9 hgr
            · have q2 : decide ((r.Data.length : Int) > 0) = false := by rw [decide_eq_false_iff_not]; omega
              have q2' : decide (0 < r.Data.length) = false := by rw [decide_eq_false_iff_not]; exact hd
              go_wp2
              go_end0
              exact turn_kept HM.out HB
          · have k3 : (t.kind == 3) = false := int_beq_false hk3
            go_wp2_with (first
              | ((with_reducible refine gate_store (p := 26) rfl ?_); refine ev_store_ownN rfl rfl rfl o1 (k := p * 12 + 0) (by omega) rfl rfl (by kernel_rfl) (by kernel_rfl) ?_; intro W2 o2 hgr))
            go_end0
            exact turn_field HM.out HB Hx.out (x' := ({ x.1 with V := t.by_ }, x.2)) (f := 0) (v := .int .i64 t.by_) rfl (by decide) rfl rfl rfl Hxw.out o2 hgr
end Go.Proofs.Ytikodgaomhmbmaa
