/-
  The walk of annalslaw4.turned: one record of a list of one's own is changed in place.
-/
import Derived.Test.YtikodgaomhmbmaaDoorH3
import Derived.Test.YtikodgaomhmbmaaDoorMH
import Derived.StillTailTactics
set_option linter.unusedVariables false
set_option linter.unusedSimpArgs false
namespace Go.Proofs.YtikodgaomhmbmaaDoor
open Go.RowKit
attribute [local go_sem] Rec.size_ Rec.g0 Rec.g1 Rec.g2 Rec.g3 Rec.g4 Rec.g5 Rec.g6 Rec.g7 Rec.g8 Rec.g9 Rec.g10 Rec.g11 Rec.fold Rec.lit_fold

/-! ### One record of a list -/
theorem bs_set (os : List RA) (i : Nat) (x : RA) : bs (os.set i x) = (bs os).set i (x.1.Data, x.2.1, x.2.2) := by unfold bs; rw [List.map_set]
theorem bs_set_same {os : List RA} {i : Nat} {x x' : RA} (h : os[i]? = some x) (hd : (x'.1.Data, x'.2.1, x'.2.2) = (x.1.Data, x.2.1, x.2.2)) : bs (os.set i x') = bs os := by
  rw [bs_set, hd]
  have hb := bs_get h
  obtain ⟨hl, e⟩ := List.getElem?_eq_some_iff.1 hb
  rw [← e]
  simp

/-- A list of records of one's own, their data too; its names and data are short. -/
structure Mine (w : World) (base n : Nat) (A : Option Addr) (c : Nat) (os : List RA) : Prop where
  len : os.length = n
  row : w.ownsRow base 27 12 (.slice A n c) n (recCells os)
  dat : OBs w base (bs os)
  small : ∀ x ∈ os, x.1.Name.size ≤ 1048576 ∧ x.1.Data.length ≤ 1048576
theorem Mine.fits {w : World} {base n c : Nat} {A : Option Addr} {os : List RA} (h : Mine w base n A c os) : ∀ x ∈ os, x.1.Fits := fun x hx => ⟨by have := (h.small x hx).1; omega, by have := (h.small x hx).2; omega⟩
theorem Mine.names {w : World} {base n c : Nat} {A : Option Addr} {os : List RA} (h : Mine w base n A c os) : ∀ x ∈ os, x.1.Name.size ≤ 1099511627776 := fun x hx => by have := (h.small x hx).1; omega
theorem Mine.rr {w : World} {base n c : Nat} {A : Option Addr} {os : List RA} (h : Mine w base n A c os) : RR w A os := RR.of_own h.row h.len h.dat.recs
theorem Mine.next {w w' : World} {base n c : Nat} {A : Option Addr} {os : List RA} (h : Mine w base n A c os) (hb : Below w.heap.size w w') : Mine w' base n A c os := ⟨h.len, own_next h.row hb, h.dat.next hb, h.small⟩
/-- A number of a record is changed. -/
theorem Mine.field {w w' : World} {base n c g i f : Nat} {os : List RA} {x x' : RA} {v : Value} (h : Mine w base n (some ⟨g, 0, none⟩) c os) (hi : os[i]? = some x) (hc : x'.cs = x.cs.set f v) (hf : f < 12) (hn : x'.1.Name = x.1.Name) (hd : x'.1.Data = x.1.Data) (ha : x'.2 = x.2)
    (ho : w'.ownsRow base 27 12 (.slice (some ⟨g, 0, none⟩) n c) n ((recCells os).set (i * 12 + f) v)) (hgr : w.grownBy w' (Value.slice (some ⟨g, 0, none⟩) n c).ownBlock) : Mine w' base n (some ⟨g, 0, none⟩) c (os.set i x') := by
  refine ⟨by rw [List.length_set]; exact h.len, by rw [recCells_set f v hi hc hf]; exact ho, ?_, fun y hy => ?_⟩
  · rw [bs_set_same hi (by rw [hd, ha])]
    exact h.dat.kept hgr (h.dat.ne_own h.row (by decide))
  · rcases List.mem_or_eq_of_mem_set hy with hy | rfl
    · exact h.small y hy
    · rw [hn, hd]
      exact h.small x (List.mem_of_getElem? hi)
/-- A byte of a record's data is changed. -/
theorem Mine.byte {w w' : World} {base n c g i g8 c8 : Nat} {os : List RA} {r : Rec} {l' : List UInt8} (h : Mine w base n (some ⟨g, 0, none⟩) c os) (hi : os[i]? = some (r, some ⟨g8, 0, none⟩, c8)) (hl : l'.length = r.Data.length)
    (ho : OB w' base (some ⟨g8, 0, none⟩) c8 l') (hgr : w.grownBy w' (some g8)) : Mine w' base n (some ⟨g, 0, none⟩) c (os.set i ({ r with Data := l' }, some ⟨g8, 0, none⟩, c8)) := by
  have hcs : RA.cs ({ r with Data := l' }, some ⟨g8, 0, none⟩, c8) = RA.cs (r, some ⟨g8, 0, none⟩, c8) := by simp [RA.cs, Rec.cells, hl]
  have hb := bs_get hi
  have hmem := h.dat.all _ (List.mem_of_getElem? hb)
  refine ⟨by rw [List.length_set]; exact h.len, ?_, ?_, fun y hy => ?_⟩
  · have e : recCells (os.set i ({ r with Data := l' }, some ⟨g8, 0, none⟩, c8)) = recCells os := by
      have hz : (RA.cs (r, some ⟨g8, 0, none⟩, c8))[0]? = some (.int .i64 r.V) := rfl
      have := recCells_set (os := os) (i := i) (x := (r, some ⟨g8, 0, none⟩, c8)) (x' := ({ r with Data := l' }, some ⟨g8, 0, none⟩, c8)) 0 (.int .i64 r.V) hi (by rw [hcs]; rfl) (by decide)
      rw [this]
      have hr := recCells_get hi 0 (by decide)
      obtain ⟨hl2, e2⟩ := List.getElem?_eq_some_iff.1 (hr.trans (Rec.g0 _ _ _))
      rw [← e2]
      simp
    rw [e]
    refine h.row.kept hgr (.inr fun e3 => ?_)
    exact hmem.ne_own h.row (by decide) ⟨g8, 0, none⟩ rfl e3.symm
  · rw [bs_set]
    exact h.dat.set_ hb ho hgr
  · rcases List.mem_or_eq_of_mem_set hy with hy | rfl
    · exact h.small y hy
    · have := h.small _ (List.mem_of_getElem? hi)
      exact ⟨this.1, by rw [show ({ r with Data := l' } : Rec).Data.length = r.Data.length from hl]; exact this.2⟩

/-! ### turned -/
/-- A change. -/
structure Trn where
  at_ : Int
  kind : Int
  by_ : Int
def Trn.cells (t : Trn) : Array Value := #[.int .i64 t.at_, .int .i64 t.kind, .int .i64 t.by_]
section
variable (t : Trn)
theorem Trn.size_ : t.cells.size = 3 := rfl
theorem Trn.g0 : t.cells[0]? = some (.int .i64 t.at_) := rfl
theorem Trn.g1 : t.cells[1]? = some (.int .i64 t.kind) := rfl
theorem Trn.g2 : t.cells[2]? = some (.int .i64 t.by_) := rfl
end
attribute [local go_sem] Trn.size_ Trn.g0 Trn.g1 Trn.g2
/-- The place that a number names. -/
theorem spot_lt (q : Int) (n : Nat) (h : 0 < n) (hn : n ≤ 140737488351232) : -(n : Int) < q.tmod n ∧ q.tmod n < n := by
  have hn0 : (0 : Int) < (n : Int) := by omega
  have h1 := Int.tmod_lt_of_pos q hn0
  have h2 : -(n : Int) < q.tmod n := by
    rcases Int.le_total 0 q with hq | hq
    · have := Int.tmod_nonneg (n : Int) hq
      omega
    · have h3 : q.tmod n = -((-q).tmod n) := by rw [Int.neg_tmod]; omega
      have h4 := Int.tmod_lt_of_pos (-q) hn0
      omega
  exact ⟨h2, h1⟩
def TurnSaid (n : Nat) (A : Option Addr) (c base : Nat) (w : World) (e : Ending) (w' : World) : Prop := e = .returned (.tuple #[]) ∧ ∃ os', Mine w' base n A c os' ∧ Below base w w'
theorem turn_kept {n : Nat} {A : Option Addr} {c base : Nat} {w w' : World} {os : List RA} (hM : Mine w base n A c os) (hbase : base ≤ w.heap.size) (hb : Below w.heap.size w w') : TurnSaid n A c base w (.returned (.tuple #[])) w' :=
  ⟨rfl, os, hM.next hb, ⟨hb.os, hb.tape, hb.output, hb.size, fun i hi => hb.block i (by omega)⟩⟩
theorem turn_below {base : Nat} {w w1 w2 : World} {row : Option Nat} (hbase : base ≤ w.heap.size) (hb : Below w.heap.size w w1) (hgr : w1.grownBy w2 row) (hr : ∀ k, row = some k → base ≤ k) : Below base w w2 :=
  ⟨hgr.os.trans hb.os, hgr.tape.trans hb.tape, hgr.output.trans hb.output, Nat.le_trans hb.size hgr.size, fun i hi => (hgr.block i (by have := hb.size; omega) (fun e => by have := hr i e.symm; omega)).trans (hb.block i (by omega))⟩
def SignIs_pos (q : Int) (n i : Nat) : Prop := q = (i : Int)
def SignIs_neg (q : Int) (n i : Nat) : Prop := q < 0 ∧ wrap64 (q + (n : Int)) = (i : Int)
set_option maxHeartbeats 2000000 in
set_option maxRecDepth 100000 in
theorem turnedpos1 (t : Trn) (os : List RA) (n i : Nat) (g c base : Nat) (w : World) (q : Int) (hq : t.at_.tmod (n : Int) = q) (hqi : SignIs_pos q n i) (hi : i < n) (hn : n ≤ 1048576) (hk : t.kind = 1) (hbase : base ≤ w.heap.size) (hM : Mine w base n (some ⟨g, 0, none⟩) c os) :
    Calls Tryd.prog 43 #[.slice (some ⟨g, 0, none⟩) n c, .agg t.cells] w (TurnSaid n (some ⟨g, 0, none⟩) c base w) := by
  have HB := Below.refl w.heap.size w
  have t1 : ((n : Int) == 0) = false := int_beq_false (by omega)
  have t1' : (n == 0) = false := by simp; omega
  have k0 : (t.kind == 0) = false := int_beq_false (by omega)
  have k1 : (t.kind == 1) = true := int_beq_true hk
  obtain rfl : q = (i : Int) := hqi
  have sq : decide ((i : Int) < 0) = false := by simp
  have hin : i < n := hi
  obtain ⟨x, hx⟩ : ∃ x, os[i]? = some x := ⟨_, List.getElem?_eq_getElem (by rw [hM.len]; exact hi)⟩
  have o1 := hM.row
  have HM := Lib.hid hM
  have Hx := Lib.hid hx
  have Hi := Lib.hid hi
  clear hM hx hk
  go_enter Tryd.func43, Tryd.ntmps43
  go_wp2_with (first
    | ((with_reducible refine gate_dst (N := 3) rfl ?_); refine ev_box rfl rfl (t.cells) rfl ?_; intro g1 W1 hg1 hsz hbn; have hgr := grown_of_below hbn; have zg1 : w.heap.size ≤ g1 := (by have := HB.size; omega); replace o1 := o1.kept hgr (by cases Value.ownBlock _ <;> simp); replace HB := HB.grown hgr (by have := HB.size; omega) (by simp); have hcg1 := hg1.cell; have hfg1 := hg1.frozen; clear hsz hbn hgr)
    | ((with_reducible refine gate_store (p := 65) rfl ?_); refine ev_store_ownN rfl rfl rfl o1 (k := i * 12 + 3) (by have := Hi.out; omega) rfl rfl (by kernel_rfl) (by kernel_rfl) ?_; intro W2 o2 hgr))
  go_end0
  refine ⟨rfl, _, Mine.field (HM.out.next HB) Hx.out (x' := ({ x.1 with Step := t.by_ }, x.2)) (f := 3) (v := .int .i64 t.by_) rfl (by decide) rfl rfl rfl o2 hgr, turn_below hbase HB hgr (fun k e => own_base o1 k e)⟩
set_option maxHeartbeats 2000000 in
set_option maxRecDepth 100000 in
theorem turnedneg1 (t : Trn) (os : List RA) (n i : Nat) (g c base : Nat) (w : World) (q : Int) (hq : t.at_.tmod (n : Int) = q) (hqi : SignIs_neg q n i) (hi : i < n) (hn : n ≤ 1048576) (hk : t.kind = 1) (hbase : base ≤ w.heap.size) (hM : Mine w base n (some ⟨g, 0, none⟩) c os) :
    Calls Tryd.prog 43 #[.slice (some ⟨g, 0, none⟩) n c, .agg t.cells] w (TurnSaid n (some ⟨g, 0, none⟩) c base w) := by
  have HB := Below.refl w.heap.size w
  have t1 : ((n : Int) == 0) = false := int_beq_false (by omega)
  have t1' : (n == 0) = false := by simp; omega
  have k0 : (t.kind == 0) = false := int_beq_false (by omega)
  have k1 : (t.kind == 1) = true := int_beq_true hk
  have sq : decide (q < 0) = true := by rw [decide_eq_true_eq]; exact hqi.1
  have wq := hqi.2
  clear hqi
  have hin : i < n := hi
  obtain ⟨x, hx⟩ : ∃ x, os[i]? = some x := ⟨_, List.getElem?_eq_getElem (by rw [hM.len]; exact hi)⟩
  have o1 := hM.row
  have HM := Lib.hid hM
  have Hx := Lib.hid hx
  have Hi := Lib.hid hi
  clear hM hx hk
  go_enter Tryd.func43, Tryd.ntmps43
  go_wp2_with (first
    | ((with_reducible refine gate_dst (N := 3) rfl ?_); refine ev_box rfl rfl (t.cells) rfl ?_; intro g1 W1 hg1 hsz hbn; have hgr := grown_of_below hbn; have zg1 : w.heap.size ≤ g1 := (by have := HB.size; omega); replace o1 := o1.kept hgr (by cases Value.ownBlock _ <;> simp); replace HB := HB.grown hgr (by have := HB.size; omega) (by simp); have hcg1 := hg1.cell; have hfg1 := hg1.frozen; clear hsz hbn hgr)
    | ((with_reducible refine gate_store (p := 65) rfl ?_); refine ev_store_ownN rfl rfl rfl o1 (k := i * 12 + 3) (by have := Hi.out; omega) rfl rfl (by kernel_rfl) (by kernel_rfl) ?_; intro W2 o2 hgr))
  go_end0
  refine ⟨rfl, _, Mine.field (HM.out.next HB) Hx.out (x' := ({ x.1 with Step := t.by_ }, x.2)) (f := 3) (v := .int .i64 t.by_) rfl (by decide) rfl rfl rfl o2 hgr, turn_below hbase HB hgr (fun k e => own_base o1 k e)⟩
set_option maxHeartbeats 2000000 in
set_option maxRecDepth 100000 in
theorem turnedpos2 (t : Trn) (os : List RA) (n i : Nat) (g c base : Nat) (w : World) (q : Int) (hq : t.at_.tmod (n : Int) = q) (hqi : SignIs_pos q n i) (hi : i < n) (hn : n ≤ 1048576) (hk : t.kind = 2) (hbase : base ≤ w.heap.size) (hM : Mine w base n (some ⟨g, 0, none⟩) c os) :
    Calls Tryd.prog 43 #[.slice (some ⟨g, 0, none⟩) n c, .agg t.cells] w (TurnSaid n (some ⟨g, 0, none⟩) c base w) := by
  have HB := Below.refl w.heap.size w
  have t1 : ((n : Int) == 0) = false := int_beq_false (by omega)
  have t1' : (n == 0) = false := by simp; omega
  have k0 : (t.kind == 0) = false := int_beq_false (by omega)
  have k1 : (t.kind == 1) = false := int_beq_false (by omega)
  have k2 : (t.kind == 2) = true := int_beq_true hk
  obtain rfl : q = (i : Int) := hqi
  have sq : decide ((i : Int) < 0) = false := by simp
  have hin : i < n := hi
  obtain ⟨x, hx⟩ : ∃ x, os[i]? = some x := ⟨_, List.getElem?_eq_getElem (by rw [hM.len]; exact hi)⟩
  have o1 := hM.row
  have HM := Lib.hid hM
  have Hx := Lib.hid hx
  have Hi := Lib.hid hi
  clear hM hx hk
  go_enter Tryd.func43, Tryd.ntmps43
  go_wp2_with (first
    | ((with_reducible refine gate_dst (N := 3) rfl ?_); refine ev_box rfl rfl (t.cells) rfl ?_; intro g1 W1 hg1 hsz hbn; have hgr := grown_of_below hbn; have zg1 : w.heap.size ≤ g1 := (by have := HB.size; omega); replace o1 := o1.kept hgr (by cases Value.ownBlock _ <;> simp); replace HB := HB.grown hgr (by have := HB.size; omega) (by simp); have hcg1 := hg1.cell; have hfg1 := hg1.frozen; clear hsz hbn hgr)
    | ((with_reducible refine gate_store (p := 73) rfl ?_); refine ev_store_ownN rfl rfl rfl o1 (k := i * 12 + 2) (by have := Hi.out; omega) rfl rfl (by kernel_rfl) (by kernel_rfl) ?_; intro W2 o2 hgr))
  go_end0
  refine ⟨rfl, _, Mine.field (HM.out.next HB) Hx.out (x' := ({ x.1 with Saga := t.by_ }, x.2)) (f := 2) (v := .int .i64 t.by_) rfl (by decide) rfl rfl rfl o2 hgr, turn_below hbase HB hgr (fun k e => own_base o1 k e)⟩
set_option maxHeartbeats 2000000 in
set_option maxRecDepth 100000 in
theorem turnedneg2 (t : Trn) (os : List RA) (n i : Nat) (g c base : Nat) (w : World) (q : Int) (hq : t.at_.tmod (n : Int) = q) (hqi : SignIs_neg q n i) (hi : i < n) (hn : n ≤ 1048576) (hk : t.kind = 2) (hbase : base ≤ w.heap.size) (hM : Mine w base n (some ⟨g, 0, none⟩) c os) :
    Calls Tryd.prog 43 #[.slice (some ⟨g, 0, none⟩) n c, .agg t.cells] w (TurnSaid n (some ⟨g, 0, none⟩) c base w) := by
  have HB := Below.refl w.heap.size w
  have t1 : ((n : Int) == 0) = false := int_beq_false (by omega)
  have t1' : (n == 0) = false := by simp; omega
  have k0 : (t.kind == 0) = false := int_beq_false (by omega)
  have k1 : (t.kind == 1) = false := int_beq_false (by omega)
  have k2 : (t.kind == 2) = true := int_beq_true hk
  have sq : decide (q < 0) = true := by rw [decide_eq_true_eq]; exact hqi.1
  have wq := hqi.2
  clear hqi
  have hin : i < n := hi
  obtain ⟨x, hx⟩ : ∃ x, os[i]? = some x := ⟨_, List.getElem?_eq_getElem (by rw [hM.len]; exact hi)⟩
  have o1 := hM.row
  have HM := Lib.hid hM
  have Hx := Lib.hid hx
  have Hi := Lib.hid hi
  clear hM hx hk
  go_enter Tryd.func43, Tryd.ntmps43
  go_wp2_with (first
    | ((with_reducible refine gate_dst (N := 3) rfl ?_); refine ev_box rfl rfl (t.cells) rfl ?_; intro g1 W1 hg1 hsz hbn; have hgr := grown_of_below hbn; have zg1 : w.heap.size ≤ g1 := (by have := HB.size; omega); replace o1 := o1.kept hgr (by cases Value.ownBlock _ <;> simp); replace HB := HB.grown hgr (by have := HB.size; omega) (by simp); have hcg1 := hg1.cell; have hfg1 := hg1.frozen; clear hsz hbn hgr)
    | ((with_reducible refine gate_store (p := 73) rfl ?_); refine ev_store_ownN rfl rfl rfl o1 (k := i * 12 + 2) (by have := Hi.out; omega) rfl rfl (by kernel_rfl) (by kernel_rfl) ?_; intro W2 o2 hgr))
  go_end0
  refine ⟨rfl, _, Mine.field (HM.out.next HB) Hx.out (x' := ({ x.1 with Saga := t.by_ }, x.2)) (f := 2) (v := .int .i64 t.by_) rfl (by decide) rfl rfl rfl o2 hgr, turn_below hbase HB hgr (fun k e => own_base o1 k e)⟩
set_option maxHeartbeats 2000000 in
set_option maxRecDepth 100000 in
theorem turnedpos3 (t : Trn) (os : List RA) (n i : Nat) (g c base : Nat) (w : World) (q : Int) (hq : t.at_.tmod (n : Int) = q) (hqi : SignIs_pos q n i) (hi : i < n) (hn : n ≤ 1048576) (hk : t.kind = 3) (hbase : base ≤ w.heap.size) (hM : Mine w base n (some ⟨g, 0, none⟩) c os) :
    Calls Tryd.prog 43 #[.slice (some ⟨g, 0, none⟩) n c, .agg t.cells] w (TurnSaid n (some ⟨g, 0, none⟩) c base w) := by
  have HB := Below.refl w.heap.size w
  have t1 : ((n : Int) == 0) = false := int_beq_false (by omega)
  have t1' : (n == 0) = false := by simp; omega
  have k0 : (t.kind == 0) = false := int_beq_false (by omega)
  have k1 : (t.kind == 1) = false := int_beq_false (by omega)
  have k2 : (t.kind == 2) = false := int_beq_false (by omega)
  have k3 : (t.kind == 3) = true := int_beq_true hk
  obtain rfl : q = (i : Int) := hqi
  have sq : decide ((i : Int) < 0) = false := by simp
  have hin : i < n := hi
  obtain ⟨x, hx⟩ : ∃ x, os[i]? = some x := ⟨_, List.getElem?_eq_getElem (by rw [hM.len]; exact hi)⟩
  have o1 := hM.row
  have HM := Lib.hid hM
  have Hx := Lib.hid hx
  have Hi := Lib.hid hi
  clear hM hx hk
  go_enter Tryd.func43, Tryd.ntmps43
  go_wp2_with (first
    | ((with_reducible refine gate_dst (N := 3) rfl ?_); refine ev_box rfl rfl (t.cells) rfl ?_; intro g1 W1 hg1 hsz hbn; have hgr := grown_of_below hbn; have zg1 : w.heap.size ≤ g1 := (by have := HB.size; omega); replace o1 := o1.kept hgr (by cases Value.ownBlock _ <;> simp); replace HB := HB.grown hgr (by have := HB.size; omega) (by simp); have hcg1 := hg1.cell; have hfg1 := hg1.frozen; clear hsz hbn hgr)
    | ((with_reducible refine gate_store (p := 81) rfl ?_); refine ev_store_ownN rfl rfl rfl o1 (k := i * 12 + 0) (by have := Hi.out; omega) rfl rfl (by kernel_rfl) (by kernel_rfl) ?_; intro W2 o2 hgr))
  go_end0
  refine ⟨rfl, _, Mine.field (HM.out.next HB) Hx.out (x' := ({ x.1 with V := t.by_ }, x.2)) (f := 0) (v := .int .i64 t.by_) rfl (by decide) rfl rfl rfl o2 hgr, turn_below hbase HB hgr (fun k e => own_base o1 k e)⟩
set_option maxHeartbeats 2000000 in
set_option maxRecDepth 100000 in
theorem turnedneg3 (t : Trn) (os : List RA) (n i : Nat) (g c base : Nat) (w : World) (q : Int) (hq : t.at_.tmod (n : Int) = q) (hqi : SignIs_neg q n i) (hi : i < n) (hn : n ≤ 1048576) (hk : t.kind = 3) (hbase : base ≤ w.heap.size) (hM : Mine w base n (some ⟨g, 0, none⟩) c os) :
    Calls Tryd.prog 43 #[.slice (some ⟨g, 0, none⟩) n c, .agg t.cells] w (TurnSaid n (some ⟨g, 0, none⟩) c base w) := by
  have HB := Below.refl w.heap.size w
  have t1 : ((n : Int) == 0) = false := int_beq_false (by omega)
  have t1' : (n == 0) = false := by simp; omega
  have k0 : (t.kind == 0) = false := int_beq_false (by omega)
  have k1 : (t.kind == 1) = false := int_beq_false (by omega)
  have k2 : (t.kind == 2) = false := int_beq_false (by omega)
  have k3 : (t.kind == 3) = true := int_beq_true hk
  have sq : decide (q < 0) = true := by rw [decide_eq_true_eq]; exact hqi.1
  have wq := hqi.2
  clear hqi
  have hin : i < n := hi
  obtain ⟨x, hx⟩ : ∃ x, os[i]? = some x := ⟨_, List.getElem?_eq_getElem (by rw [hM.len]; exact hi)⟩
  have o1 := hM.row
  have HM := Lib.hid hM
  have Hx := Lib.hid hx
  have Hi := Lib.hid hi
  clear hM hx hk
  go_enter Tryd.func43, Tryd.ntmps43
  go_wp2_with (first
    | ((with_reducible refine gate_dst (N := 3) rfl ?_); refine ev_box rfl rfl (t.cells) rfl ?_; intro g1 W1 hg1 hsz hbn; have hgr := grown_of_below hbn; have zg1 : w.heap.size ≤ g1 := (by have := HB.size; omega); replace o1 := o1.kept hgr (by cases Value.ownBlock _ <;> simp); replace HB := HB.grown hgr (by have := HB.size; omega) (by simp); have hcg1 := hg1.cell; have hfg1 := hg1.frozen; clear hsz hbn hgr)
    | ((with_reducible refine gate_store (p := 81) rfl ?_); refine ev_store_ownN rfl rfl rfl o1 (k := i * 12 + 0) (by have := Hi.out; omega) rfl rfl (by kernel_rfl) (by kernel_rfl) ?_; intro W2 o2 hgr))
  go_end0
  refine ⟨rfl, _, Mine.field (HM.out.next HB) Hx.out (x' := ({ x.1 with V := t.by_ }, x.2)) (f := 0) (v := .int .i64 t.by_) rfl (by decide) rfl rfl rfl o2 hgr, turn_below hbase HB hgr (fun k e => own_base o1 k e)⟩
set_option maxHeartbeats 2000000 in
set_option maxRecDepth 100000 in
theorem turnedpos4 (t : Trn) (os : List RA) (n i : Nat) (g c base : Nat) (w : World) (q : Int) (hq : t.at_.tmod (n : Int) = q) (hqi : SignIs_pos q n i) (hi : i < n) (hn : n ≤ 1048576) (hk : t.kind = 4) (hbase : base ≤ w.heap.size) (hM : Mine w base n (some ⟨g, 0, none⟩) c os) :
    Calls Tryd.prog 43 #[.slice (some ⟨g, 0, none⟩) n c, .agg t.cells] w (TurnSaid n (some ⟨g, 0, none⟩) c base w) := by
  have HB := Below.refl w.heap.size w
  have t1 : ((n : Int) == 0) = false := int_beq_false (by omega)
  have t1' : (n == 0) = false := by simp; omega
  have k0 : (t.kind == 0) = false := int_beq_false (by omega)
  have k1 : (t.kind == 1) = false := int_beq_false (by omega)
  have k2 : (t.kind == 2) = false := int_beq_false (by omega)
  have k3 : (t.kind == 3) = false := int_beq_false (by omega)
  have k4 : (t.kind == 4) = true := int_beq_true hk
  obtain rfl : q = (i : Int) := hqi
  have sq : decide ((i : Int) < 0) = false := by simp
  have hin : i < n := hi
  obtain ⟨x, hx⟩ : ∃ x, os[i]? = some x := ⟨_, List.getElem?_eq_getElem (by rw [hM.len]; exact hi)⟩
  have o1 := hM.row
  have HM := Lib.hid hM
  have Hx := Lib.hid hx
  have Hi := Lib.hid hi
  clear hM hx hk
  go_enter Tryd.func43, Tryd.ntmps43
  go_wp2_with (first
    | ((with_reducible refine gate_dst (N := 3) rfl ?_); refine ev_box rfl rfl (t.cells) rfl ?_; intro g1 W1 hg1 hsz hbn; have hgr := grown_of_below hbn; have zg1 : w.heap.size ≤ g1 := (by have := HB.size; omega); replace o1 := o1.kept hgr (by cases Value.ownBlock _ <;> simp); replace HB := HB.grown hgr (by have := HB.size; omega) (by simp); have hcg1 := hg1.cell; have hfg1 := hg1.frozen; clear hsz hbn hgr)
    | ((with_reducible refine gate_store (p := 89) rfl ?_); refine ev_store_ownN rfl rfl rfl o1 (k := i * 12 + 1) (by have := Hi.out; omega) rfl rfl (by kernel_rfl) (by kernel_rfl) ?_; intro W2 o2 hgr))
  go_end0
  refine ⟨rfl, _, Mine.field (HM.out.next HB) Hx.out (x' := ({ x.1 with Kind := t.by_ }, x.2)) (f := 1) (v := .int .i64 t.by_) rfl (by decide) rfl rfl rfl o2 hgr, turn_below hbase HB hgr (fun k e => own_base o1 k e)⟩
set_option maxHeartbeats 2000000 in
set_option maxRecDepth 100000 in
theorem turnedneg4 (t : Trn) (os : List RA) (n i : Nat) (g c base : Nat) (w : World) (q : Int) (hq : t.at_.tmod (n : Int) = q) (hqi : SignIs_neg q n i) (hi : i < n) (hn : n ≤ 1048576) (hk : t.kind = 4) (hbase : base ≤ w.heap.size) (hM : Mine w base n (some ⟨g, 0, none⟩) c os) :
    Calls Tryd.prog 43 #[.slice (some ⟨g, 0, none⟩) n c, .agg t.cells] w (TurnSaid n (some ⟨g, 0, none⟩) c base w) := by
  have HB := Below.refl w.heap.size w
  have t1 : ((n : Int) == 0) = false := int_beq_false (by omega)
  have t1' : (n == 0) = false := by simp; omega
  have k0 : (t.kind == 0) = false := int_beq_false (by omega)
  have k1 : (t.kind == 1) = false := int_beq_false (by omega)
  have k2 : (t.kind == 2) = false := int_beq_false (by omega)
  have k3 : (t.kind == 3) = false := int_beq_false (by omega)
  have k4 : (t.kind == 4) = true := int_beq_true hk
  have sq : decide (q < 0) = true := by rw [decide_eq_true_eq]; exact hqi.1
  have wq := hqi.2
  clear hqi
  have hin : i < n := hi
  obtain ⟨x, hx⟩ : ∃ x, os[i]? = some x := ⟨_, List.getElem?_eq_getElem (by rw [hM.len]; exact hi)⟩
  have o1 := hM.row
  have HM := Lib.hid hM
  have Hx := Lib.hid hx
  have Hi := Lib.hid hi
  clear hM hx hk
  go_enter Tryd.func43, Tryd.ntmps43
  go_wp2_with (first
    | ((with_reducible refine gate_dst (N := 3) rfl ?_); refine ev_box rfl rfl (t.cells) rfl ?_; intro g1 W1 hg1 hsz hbn; have hgr := grown_of_below hbn; have zg1 : w.heap.size ≤ g1 := (by have := HB.size; omega); replace o1 := o1.kept hgr (by cases Value.ownBlock _ <;> simp); replace HB := HB.grown hgr (by have := HB.size; omega) (by simp); have hcg1 := hg1.cell; have hfg1 := hg1.frozen; clear hsz hbn hgr)
    | ((with_reducible refine gate_store (p := 89) rfl ?_); refine ev_store_ownN rfl rfl rfl o1 (k := i * 12 + 1) (by have := Hi.out; omega) rfl rfl (by kernel_rfl) (by kernel_rfl) ?_; intro W2 o2 hgr))
  go_end0
  refine ⟨rfl, _, Mine.field (HM.out.next HB) Hx.out (x' := ({ x.1 with Kind := t.by_ }, x.2)) (f := 1) (v := .int .i64 t.by_) rfl (by decide) rfl rfl rfl o2 hgr, turn_below hbase HB hgr (fun k e => own_base o1 k e)⟩

set_option maxHeartbeats 2000000 in
set_option maxRecDepth 100000 in
theorem turnedposNone (t : Trn) (os : List RA) (n i : Nat) (g c base : Nat) (w : World) (q : Int) (hq : t.at_.tmod (n : Int) = q) (hqi : SignIs_pos q n i) (hi : i < n) (hn : n ≤ 1048576) (hk : t.kind ≠ 0 ∧ t.kind ≠ 1 ∧ t.kind ≠ 2 ∧ t.kind ≠ 3 ∧ t.kind ≠ 4) (hbase : base ≤ w.heap.size) (hM : Mine w base n (some ⟨g, 0, none⟩) c os) :
    Calls Tryd.prog 43 #[.slice (some ⟨g, 0, none⟩) n c, .agg t.cells] w (TurnSaid n (some ⟨g, 0, none⟩) c base w) := by
  have HB := Below.refl w.heap.size w
  have t1 : ((n : Int) == 0) = false := int_beq_false (by omega)
  have t1' : (n == 0) = false := by simp; omega
  have k0 := int_beq_false hk.1
  have k1 := int_beq_false hk.2.1
  have k2 := int_beq_false hk.2.2.1
  have k3 := int_beq_false hk.2.2.2.1
  have k4 := int_beq_false hk.2.2.2.2
  obtain rfl : q = (i : Int) := hqi
  have sq : decide ((i : Int) < 0) = false := by simp
  have HM := Lib.hid hM
  clear hM hk
  go_enter Tryd.func43, Tryd.ntmps43
  go_wp2_with (first
    | ((with_reducible refine gate_dst (N := 3) rfl ?_); refine ev_box rfl rfl (t.cells) rfl ?_; intro g1 W1 hg1 hsz hbn; have hgr := grown_of_below hbn; have zg1 : w.heap.size ≤ g1 := (by have := HB.size; omega); replace HB := HB.grown hgr (by have := HB.size; omega) (by simp); have hcg1 := hg1.cell; have hfg1 := hg1.frozen; clear hsz hbn hgr))
  go_end0
  exact turn_kept HM.out hbase HB
set_option maxHeartbeats 2000000 in
set_option maxRecDepth 100000 in
theorem turnedposEmpty (t : Trn) (os : List RA) (n i : Nat) (g c base : Nat) (w : World) (q : Int) (hq : t.at_.tmod (n : Int) = q) (hqi : SignIs_pos q n i) (hi : i < n) (hn : n ≤ 1048576) (hk : t.kind = 0) (hbase : base ≤ w.heap.size) (hM : Mine w base n (some ⟨g, 0, none⟩) c os) (r : Rec) (A8 : Option Addr) (c8 : Nat) (hx : os[i]? = some (r, A8, c8)) (hd : r.Data.length = 0) :
    Calls Tryd.prog 43 #[.slice (some ⟨g, 0, none⟩) n c, .agg t.cells] w (TurnSaid n (some ⟨g, 0, none⟩) c base w) := by
  obtain rfl : q = (i : Int) := hqi
  have sq : decide ((i : Int) < 0) = false := by simp
  have HB := Below.refl w.heap.size w
  have t1 : ((n : Int) == 0) = false := int_beq_false (by omega)
  have t1' : (n == 0) = false := by simp; omega
  have k0 : (t.kind == 0) = true := int_beq_true hk
  have hin : i < n := hi
  have o1 := hM.row
  have HM := Lib.hid hM
  have Hx := Lib.hid hx
  have Hi := Lib.hid hi
  clear hM hx hk
  go_enter Tryd.func43, Tryd.ntmps43
  go_wp2_with (first
    | ((with_reducible refine gate_dst (N := 3) rfl ?_); refine ev_box rfl rfl (t.cells) rfl ?_; intro g1 W1 hg1 hsz hbn; have hgr := grown_of_below hbn; have zg1 : w.heap.size ≤ g1 := (by have := HB.size; omega); replace o1 := o1.kept hgr (by cases Value.ownBlock _ <;> simp); replace HB := HB.grown hgr (by have := HB.size; omega) (by simp); have hcg1 := hg1.cell; have hfg1 := hg1.frozen; clear hsz hbn hgr; have h11 := own_cellN o1 (i * 12 + 11) ((recCells_get Hx.out 11 (by decide)).trans (Rec.g11 _ _ _)); rw [hd] at h11))
  go_end0
  exact turn_kept HM.out hbase HB
set_option maxHeartbeats 2000000 in
set_option maxRecDepth 100000 in
theorem turnednegNone (t : Trn) (os : List RA) (n i : Nat) (g c base : Nat) (w : World) (q : Int) (hq : t.at_.tmod (n : Int) = q) (hqi : SignIs_neg q n i) (hi : i < n) (hn : n ≤ 1048576) (hk : t.kind ≠ 0 ∧ t.kind ≠ 1 ∧ t.kind ≠ 2 ∧ t.kind ≠ 3 ∧ t.kind ≠ 4) (hbase : base ≤ w.heap.size) (hM : Mine w base n (some ⟨g, 0, none⟩) c os) :
    Calls Tryd.prog 43 #[.slice (some ⟨g, 0, none⟩) n c, .agg t.cells] w (TurnSaid n (some ⟨g, 0, none⟩) c base w) := by
  have HB := Below.refl w.heap.size w
  have t1 : ((n : Int) == 0) = false := int_beq_false (by omega)
  have t1' : (n == 0) = false := by simp; omega
  have k0 := int_beq_false hk.1
  have k1 := int_beq_false hk.2.1
  have k2 := int_beq_false hk.2.2.1
  have k3 := int_beq_false hk.2.2.2.1
  have k4 := int_beq_false hk.2.2.2.2
  have sq : decide (q < 0) = true := by rw [decide_eq_true_eq]; exact hqi.1
  have wq := hqi.2
  clear hqi
  have HM := Lib.hid hM
  clear hM hk
  go_enter Tryd.func43, Tryd.ntmps43
  go_wp2_with (first
    | ((with_reducible refine gate_dst (N := 3) rfl ?_); refine ev_box rfl rfl (t.cells) rfl ?_; intro g1 W1 hg1 hsz hbn; have hgr := grown_of_below hbn; have zg1 : w.heap.size ≤ g1 := (by have := HB.size; omega); replace HB := HB.grown hgr (by have := HB.size; omega) (by simp); have hcg1 := hg1.cell; have hfg1 := hg1.frozen; clear hsz hbn hgr))
  go_end0
  exact turn_kept HM.out hbase HB
set_option maxHeartbeats 2000000 in
set_option maxRecDepth 100000 in
theorem turnednegEmpty (t : Trn) (os : List RA) (n i : Nat) (g c base : Nat) (w : World) (q : Int) (hq : t.at_.tmod (n : Int) = q) (hqi : SignIs_neg q n i) (hi : i < n) (hn : n ≤ 1048576) (hk : t.kind = 0) (hbase : base ≤ w.heap.size) (hM : Mine w base n (some ⟨g, 0, none⟩) c os) (r : Rec) (A8 : Option Addr) (c8 : Nat) (hx : os[i]? = some (r, A8, c8)) (hd : r.Data.length = 0) :
    Calls Tryd.prog 43 #[.slice (some ⟨g, 0, none⟩) n c, .agg t.cells] w (TurnSaid n (some ⟨g, 0, none⟩) c base w) := by
  have sq : decide (q < 0) = true := by rw [decide_eq_true_eq]; exact hqi.1
  have wq := hqi.2
  clear hqi
  have HB := Below.refl w.heap.size w
  have t1 : ((n : Int) == 0) = false := int_beq_false (by omega)
  have t1' : (n == 0) = false := by simp; omega
  have k0 : (t.kind == 0) = true := int_beq_true hk
  have hin : i < n := hi
  have o1 := hM.row
  have HM := Lib.hid hM
  have Hx := Lib.hid hx
  have Hi := Lib.hid hi
  clear hM hx hk
  go_enter Tryd.func43, Tryd.ntmps43
  go_wp2_with (first
    | ((with_reducible refine gate_dst (N := 3) rfl ?_); refine ev_box rfl rfl (t.cells) rfl ?_; intro g1 W1 hg1 hsz hbn; have hgr := grown_of_below hbn; have zg1 : w.heap.size ≤ g1 := (by have := HB.size; omega); replace o1 := o1.kept hgr (by cases Value.ownBlock _ <;> simp); replace HB := HB.grown hgr (by have := HB.size; omega) (by simp); have hcg1 := hg1.cell; have hfg1 := hg1.frozen; clear hsz hbn hgr; have h11 := own_cellN o1 (i * 12 + 11) ((recCells_get Hx.out 11 (by decide)).trans (Rec.g11 _ _ _)); rw [hd] at h11))
  go_end0
  exact turn_kept HM.out hbase HB
theorem u8_succ (b : UInt8) : IntKind.u8.wrap ((b.toNat : Int) + 1) = ((b + 1).toNat : Int) := by
  rw [IntKind.wrap_u8, UInt8.toNat_add]
  have := b.toNat_lt
  simp only [show (1 : UInt8).toNat = 1 from rfl]
  omega
set_option maxHeartbeats 2000000 in
set_option maxRecDepth 100000 in
theorem turnedposFullpos (t : Trn) (os : List RA) (n i : Nat) (g c base : Nat) (w : World) (q : Int) (hq : t.at_.tmod (n : Int) = q) (hqi : SignIs_pos q n i) (hi : i < n) (hn : n ≤ 1048576) (hk : t.kind = 0) (hbase : base ≤ w.heap.size) (hM : Mine w base n (some ⟨g, 0, none⟩) c os) (r : Rec) (g8 : Nat) (c8 : Nat) (hx : os[i]? = some (r, some ⟨g8, 0, none⟩, c8))
    (m j : Nat) (hm : r.Data.length = m) (q8 : Int) (hb : t.by_.tmod (m : Int) = q8) (hbj : SignIs_pos q8 m j) (hj : j < m) :
    Calls Tryd.prog 43 #[.slice (some ⟨g, 0, none⟩) n c, .agg t.cells] w (TurnSaid n (some ⟨g, 0, none⟩) c base w) := by
  have hB8 := hM.dat.all _ (List.mem_of_getElem? (bs_get hx))
  have hjd : j < r.Data.length := by omega
  obtain rfl : q = (i : Int) := hqi
  have sq : decide ((i : Int) < 0) = false := by simp
  have HB := Below.refl w.heap.size w
  have t1 : ((n : Int) == 0) = false := int_beq_false (by omega)
  have t1' : (n == 0) = false := by simp; omega
  have k0 : (t.kind == 0) = true := int_beq_true hk
  have hin : i < n := hi
  have o1 := hM.row
  have HM := Lib.hid hM
  have Hx := Lib.hid hx
  have Hi := Lib.hid hi
  clear hM hx hk
  have t2 : decide (0 < (m : Int)) = true := by rw [decide_eq_true_eq]; omega
  have t2' : decide (0 < m) = true := by rw [decide_eq_true_eq]; omega
  have t3 : ((m : Int) == 0) = false := int_beq_false (by omega)
  have t3' : (m == 0) = false := by simp; omega
  obtain rfl : q8 = (j : Int) := hbj
  have sb : decide ((j : Int) < 0) = false := by simp
  have B8 : OB w base (some ⟨g8, 0, none⟩) c8 r.Data := hB8
  clear hB8
  obtain ⟨b, hbb⟩ : ∃ b, r.Data[j]? = some b := ⟨_, List.getElem?_eq_getElem hjd⟩
  have ws := u8_succ b
  have Hbb := Lib.hid hbb
  have Hm := Lib.hid hm
  clear hbb hm
  go_enter Tryd.func43, Tryd.ntmps43
  go_wp2_with (first
    | ((with_reducible refine gate_dst (N := 3) rfl ?_); refine ev_box rfl rfl (t.cells) rfl ?_; intro g1 W1 hg1 hsz hbn; have hgr := grown_of_below hbn; have zg1 : w.heap.size ≤ g1 := (by have := HB.size; omega); replace B8 := B8.kept hgr (by simp); replace o1 := o1.kept hgr (by cases Value.ownBlock _ <;> simp); replace HB := HB.grown hgr (by have := HB.size; omega) (by simp); have hcg1 := hg1.cell; have hfg1 := hg1.frozen; clear hsz hbn hgr; have h11 := own_cellN o1 (i * 12 + 11) ((recCells_get Hx.out 11 (by decide)).trans (Rec.g11 _ _ _)); rw [show (r, (some ⟨g8, 0, none⟩ : Option Addr), c8).1.Data.length = m from Hm.out] at h11; have h8 : W1.cell? ⟨g8, j, none⟩ = some (.int .u8 b.toNat) := (by have e := B8.cell rfl (j := j) (u := .int .u8 b.toNat) (by unfold u8s; rw [List.getElem?_map, Hbb.out]; rfl); rwa [show (⟨g8, 0, none⟩ : Addr).add j = ⟨g8, j, none⟩ by unfold Addr.add; split <;> simp_all] at e)))
  go_still_tail 16, (by kernel_rfl)
  refine wpList_drew (fun wd hbd => ?_)
  replace o1 := own_next o1 hbd
  replace HB := below_go HB hbd
  replace B8 := B8.next hbd
  go_wp2_with (first
    | ((with_reducible refine gate_store (p := 57) rfl ?_); refine ev_store_ob (b := b + 1) rfl rfl rfl B8 (k := j) hjd rfl rfl (by kernel_rfl) ?_; intro W2 B9 hgr))
  go_end0
  exact ⟨rfl, _, Mine.byte (HM.out.next HB) Hx.out (l' := r.Data.set j (b + 1)) (by simp) B9 hgr, turn_below hbase HB hgr (fun k e => by injection e with e; subst e; exact (B8.lt rfl).1)⟩
set_option maxHeartbeats 2000000 in
set_option maxRecDepth 100000 in
theorem turnednegFullpos (t : Trn) (os : List RA) (n i : Nat) (g c base : Nat) (w : World) (q : Int) (hq : t.at_.tmod (n : Int) = q) (hqi : SignIs_neg q n i) (hi : i < n) (hn : n ≤ 1048576) (hk : t.kind = 0) (hbase : base ≤ w.heap.size) (hM : Mine w base n (some ⟨g, 0, none⟩) c os) (r : Rec) (g8 : Nat) (c8 : Nat) (hx : os[i]? = some (r, some ⟨g8, 0, none⟩, c8))
    (m j : Nat) (hm : r.Data.length = m) (q8 : Int) (hb : t.by_.tmod (m : Int) = q8) (hbj : SignIs_pos q8 m j) (hj : j < m) :
    Calls Tryd.prog 43 #[.slice (some ⟨g, 0, none⟩) n c, .agg t.cells] w (TurnSaid n (some ⟨g, 0, none⟩) c base w) := by
  have hB8 := hM.dat.all _ (List.mem_of_getElem? (bs_get hx))
  have hjd : j < r.Data.length := by omega
  have sq : decide (q < 0) = true := by rw [decide_eq_true_eq]; exact hqi.1
  have wq := hqi.2
  clear hqi
  have HB := Below.refl w.heap.size w
  have t1 : ((n : Int) == 0) = false := int_beq_false (by omega)
  have t1' : (n == 0) = false := by simp; omega
  have k0 : (t.kind == 0) = true := int_beq_true hk
  have hin : i < n := hi
  have o1 := hM.row
  have HM := Lib.hid hM
  have Hx := Lib.hid hx
  have Hi := Lib.hid hi
  clear hM hx hk
  have t2 : decide (0 < (m : Int)) = true := by rw [decide_eq_true_eq]; omega
  have t2' : decide (0 < m) = true := by rw [decide_eq_true_eq]; omega
  have t3 : ((m : Int) == 0) = false := int_beq_false (by omega)
  have t3' : (m == 0) = false := by simp; omega
  obtain rfl : q8 = (j : Int) := hbj
  have sb : decide ((j : Int) < 0) = false := by simp
  have B8 : OB w base (some ⟨g8, 0, none⟩) c8 r.Data := hB8
  clear hB8
  obtain ⟨b, hbb⟩ : ∃ b, r.Data[j]? = some b := ⟨_, List.getElem?_eq_getElem hjd⟩
  have ws := u8_succ b
  have Hbb := Lib.hid hbb
  have Hm := Lib.hid hm
  clear hbb hm
  go_enter Tryd.func43, Tryd.ntmps43
  go_wp2_with (first
    | ((with_reducible refine gate_dst (N := 3) rfl ?_); refine ev_box rfl rfl (t.cells) rfl ?_; intro g1 W1 hg1 hsz hbn; have hgr := grown_of_below hbn; have zg1 : w.heap.size ≤ g1 := (by have := HB.size; omega); replace B8 := B8.kept hgr (by simp); replace o1 := o1.kept hgr (by cases Value.ownBlock _ <;> simp); replace HB := HB.grown hgr (by have := HB.size; omega) (by simp); have hcg1 := hg1.cell; have hfg1 := hg1.frozen; clear hsz hbn hgr; have h11 := own_cellN o1 (i * 12 + 11) ((recCells_get Hx.out 11 (by decide)).trans (Rec.g11 _ _ _)); rw [show (r, (some ⟨g8, 0, none⟩ : Option Addr), c8).1.Data.length = m from Hm.out] at h11; have h8 : W1.cell? ⟨g8, j, none⟩ = some (.int .u8 b.toNat) := (by have e := B8.cell rfl (j := j) (u := .int .u8 b.toNat) (by unfold u8s; rw [List.getElem?_map, Hbb.out]; rfl); rwa [show (⟨g8, 0, none⟩ : Addr).add j = ⟨g8, j, none⟩ by unfold Addr.add; split <;> simp_all] at e)))
  go_still_tail 16, (by kernel_rfl)
  refine wpList_drew (fun wd hbd => ?_)
  replace o1 := own_next o1 hbd
  replace HB := below_go HB hbd
  replace B8 := B8.next hbd
  go_wp2_with (first
    | ((with_reducible refine gate_store (p := 57) rfl ?_); refine ev_store_ob (b := b + 1) rfl rfl rfl B8 (k := j) hjd rfl rfl (by kernel_rfl) ?_; intro W2 B9 hgr))
  go_end0
  exact ⟨rfl, _, Mine.byte (HM.out.next HB) Hx.out (l' := r.Data.set j (b + 1)) (by simp) B9 hgr, turn_below hbase HB hgr (fun k e => by injection e with e; subst e; exact (B8.lt rfl).1)⟩
set_option maxHeartbeats 2000000 in
set_option maxRecDepth 100000 in
theorem turnedposFullneg (t : Trn) (os : List RA) (n i : Nat) (g c base : Nat) (w : World) (q : Int) (hq : t.at_.tmod (n : Int) = q) (hqi : SignIs_pos q n i) (hi : i < n) (hn : n ≤ 1048576) (hk : t.kind = 0) (hbase : base ≤ w.heap.size) (hM : Mine w base n (some ⟨g, 0, none⟩) c os) (r : Rec) (g8 : Nat) (c8 : Nat) (hx : os[i]? = some (r, some ⟨g8, 0, none⟩, c8))
    (m j : Nat) (hm : r.Data.length = m) (q8 : Int) (hb : t.by_.tmod (m : Int) = q8) (hbj : SignIs_neg q8 m j) (hj : j < m) :
    Calls Tryd.prog 43 #[.slice (some ⟨g, 0, none⟩) n c, .agg t.cells] w (TurnSaid n (some ⟨g, 0, none⟩) c base w) := by
  have hB8 := hM.dat.all _ (List.mem_of_getElem? (bs_get hx))
  have hjd : j < r.Data.length := by omega
  obtain rfl : q = (i : Int) := hqi
  have sq : decide ((i : Int) < 0) = false := by simp
  have HB := Below.refl w.heap.size w
  have t1 : ((n : Int) == 0) = false := int_beq_false (by omega)
  have t1' : (n == 0) = false := by simp; omega
  have k0 : (t.kind == 0) = true := int_beq_true hk
  have hin : i < n := hi
  have o1 := hM.row
  have HM := Lib.hid hM
  have Hx := Lib.hid hx
  have Hi := Lib.hid hi
  clear hM hx hk
  have t2 : decide (0 < (m : Int)) = true := by rw [decide_eq_true_eq]; omega
  have t2' : decide (0 < m) = true := by rw [decide_eq_true_eq]; omega
  have t3 : ((m : Int) == 0) = false := int_beq_false (by omega)
  have t3' : (m == 0) = false := by simp; omega
  have sb : decide (q8 < 0) = true := by rw [decide_eq_true_eq]; exact hbj.1
  have wb := hbj.2
  clear hbj
  have B8 : OB w base (some ⟨g8, 0, none⟩) c8 r.Data := hB8
  clear hB8
  obtain ⟨b, hbb⟩ : ∃ b, r.Data[j]? = some b := ⟨_, List.getElem?_eq_getElem hjd⟩
  have ws := u8_succ b
  have Hbb := Lib.hid hbb
  have Hm := Lib.hid hm
  clear hbb hm
  go_enter Tryd.func43, Tryd.ntmps43
  go_wp2_with (first
    | ((with_reducible refine gate_dst (N := 3) rfl ?_); refine ev_box rfl rfl (t.cells) rfl ?_; intro g1 W1 hg1 hsz hbn; have hgr := grown_of_below hbn; have zg1 : w.heap.size ≤ g1 := (by have := HB.size; omega); replace B8 := B8.kept hgr (by simp); replace o1 := o1.kept hgr (by cases Value.ownBlock _ <;> simp); replace HB := HB.grown hgr (by have := HB.size; omega) (by simp); have hcg1 := hg1.cell; have hfg1 := hg1.frozen; clear hsz hbn hgr; have h11 := own_cellN o1 (i * 12 + 11) ((recCells_get Hx.out 11 (by decide)).trans (Rec.g11 _ _ _)); rw [show (r, (some ⟨g8, 0, none⟩ : Option Addr), c8).1.Data.length = m from Hm.out] at h11; have h8 : W1.cell? ⟨g8, j, none⟩ = some (.int .u8 b.toNat) := (by have e := B8.cell rfl (j := j) (u := .int .u8 b.toNat) (by unfold u8s; rw [List.getElem?_map, Hbb.out]; rfl); rwa [show (⟨g8, 0, none⟩ : Addr).add j = ⟨g8, j, none⟩ by unfold Addr.add; split <;> simp_all] at e)))
  go_still_tail 16, (by kernel_rfl)
  refine wpList_drew (fun wd hbd => ?_)
  replace o1 := own_next o1 hbd
  replace HB := below_go HB hbd
  replace B8 := B8.next hbd
  go_wp2_with (first
    | ((with_reducible refine gate_store (p := 57) rfl ?_); refine ev_store_ob (b := b + 1) rfl rfl rfl B8 (k := j) hjd rfl rfl (by kernel_rfl) ?_; intro W2 B9 hgr))
  go_end0
  exact ⟨rfl, _, Mine.byte (HM.out.next HB) Hx.out (l' := r.Data.set j (b + 1)) (by simp) B9 hgr, turn_below hbase HB hgr (fun k e => by injection e with e; subst e; exact (B8.lt rfl).1)⟩
set_option maxHeartbeats 2000000 in
set_option maxRecDepth 100000 in
theorem turnednegFullneg (t : Trn) (os : List RA) (n i : Nat) (g c base : Nat) (w : World) (q : Int) (hq : t.at_.tmod (n : Int) = q) (hqi : SignIs_neg q n i) (hi : i < n) (hn : n ≤ 1048576) (hk : t.kind = 0) (hbase : base ≤ w.heap.size) (hM : Mine w base n (some ⟨g, 0, none⟩) c os) (r : Rec) (g8 : Nat) (c8 : Nat) (hx : os[i]? = some (r, some ⟨g8, 0, none⟩, c8))
    (m j : Nat) (hm : r.Data.length = m) (q8 : Int) (hb : t.by_.tmod (m : Int) = q8) (hbj : SignIs_neg q8 m j) (hj : j < m) :
    Calls Tryd.prog 43 #[.slice (some ⟨g, 0, none⟩) n c, .agg t.cells] w (TurnSaid n (some ⟨g, 0, none⟩) c base w) := by
  have hB8 := hM.dat.all _ (List.mem_of_getElem? (bs_get hx))
  have hjd : j < r.Data.length := by omega
  have sq : decide (q < 0) = true := by rw [decide_eq_true_eq]; exact hqi.1
  have wq := hqi.2
  clear hqi
  have HB := Below.refl w.heap.size w
  have t1 : ((n : Int) == 0) = false := int_beq_false (by omega)
  have t1' : (n == 0) = false := by simp; omega
  have k0 : (t.kind == 0) = true := int_beq_true hk
  have hin : i < n := hi
  have o1 := hM.row
  have HM := Lib.hid hM
  have Hx := Lib.hid hx
  have Hi := Lib.hid hi
  clear hM hx hk
  have t2 : decide (0 < (m : Int)) = true := by rw [decide_eq_true_eq]; omega
  have t2' : decide (0 < m) = true := by rw [decide_eq_true_eq]; omega
  have t3 : ((m : Int) == 0) = false := int_beq_false (by omega)
  have t3' : (m == 0) = false := by simp; omega
  have sb : decide (q8 < 0) = true := by rw [decide_eq_true_eq]; exact hbj.1
  have wb := hbj.2
  clear hbj
  have B8 : OB w base (some ⟨g8, 0, none⟩) c8 r.Data := hB8
  clear hB8
  obtain ⟨b, hbb⟩ : ∃ b, r.Data[j]? = some b := ⟨_, List.getElem?_eq_getElem hjd⟩
  have ws := u8_succ b
  have Hbb := Lib.hid hbb
  have Hm := Lib.hid hm
  clear hbb hm
  go_enter Tryd.func43, Tryd.ntmps43
  go_wp2_with (first
    | ((with_reducible refine gate_dst (N := 3) rfl ?_); refine ev_box rfl rfl (t.cells) rfl ?_; intro g1 W1 hg1 hsz hbn; have hgr := grown_of_below hbn; have zg1 : w.heap.size ≤ g1 := (by have := HB.size; omega); replace B8 := B8.kept hgr (by simp); replace o1 := o1.kept hgr (by cases Value.ownBlock _ <;> simp); replace HB := HB.grown hgr (by have := HB.size; omega) (by simp); have hcg1 := hg1.cell; have hfg1 := hg1.frozen; clear hsz hbn hgr; have h11 := own_cellN o1 (i * 12 + 11) ((recCells_get Hx.out 11 (by decide)).trans (Rec.g11 _ _ _)); rw [show (r, (some ⟨g8, 0, none⟩ : Option Addr), c8).1.Data.length = m from Hm.out] at h11; have h8 : W1.cell? ⟨g8, j, none⟩ = some (.int .u8 b.toNat) := (by have e := B8.cell rfl (j := j) (u := .int .u8 b.toNat) (by unfold u8s; rw [List.getElem?_map, Hbb.out]; rfl); rwa [show (⟨g8, 0, none⟩ : Addr).add j = ⟨g8, j, none⟩ by unfold Addr.add; split <;> simp_all] at e)))
  go_still_tail 16, (by kernel_rfl)
  refine wpList_drew (fun wd hbd => ?_)
  replace o1 := own_next o1 hbd
  replace HB := below_go HB hbd
  replace B8 := B8.next hbd
  go_wp2_with (first
    | ((with_reducible refine gate_store (p := 57) rfl ?_); refine ev_store_ob (b := b + 1) rfl rfl rfl B8 (k := j) hjd rfl rfl (by kernel_rfl) ?_; intro W2 B9 hgr))
  go_end0
  exact ⟨rfl, _, Mine.byte (HM.out.next HB) Hx.out (l' := r.Data.set j (b + 1)) (by simp) B9 hgr, turn_below hbase HB hgr (fun k e => by injection e with e; subst e; exact (B8.lt rfl).1)⟩
theorem turned4_calls (t : Trn) (os : List RA) (n : Nat) (A : Option Addr) (c base : Nat) (hn : n ≤ 1048576) (w : World) (hbase : base ≤ w.heap.size) (hM : Mine w base n A c os) :
    Calls Tryd.prog 43 #[.slice A n c, .agg t.cells] w (TurnSaid n A c base w) := by
  by_cases h0 : n = 0
  · subst h0
    have HB := Below.refl w.heap.size w
    have HM := Lib.hid hM
    clear hM
    go_enter Tryd.func43, Tryd.ntmps43
    go_wp2_with (first
      | ((with_reducible refine gate_dst (N := 3) rfl ?_); refine ev_box rfl rfl (t.cells) rfl ?_; intro g1 W1 hg1 hsz hbn; have hgr := grown_of_below hbn; have zg1 : w.heap.size ≤ g1 := (by have := HB.size; omega); replace HB := HB.grown hgr (by have := HB.size; omega) (by simp); have hcg1 := hg1.cell; have hfg1 := hg1.frozen; clear hsz hbn hgr))
    refine bodyPost_ret (results_none rfl _ _ _) rfl ?_
    exact turn_kept HM.out hbase HB
  obtain ⟨g, rfl, hge⟩ := own_at hM.row (by omega)
  obtain ⟨hq1, hq2⟩ := spot_lt t.at_ n (by omega) (by omega)
  have step : ∀ (q : Int) (i : Nat) (hq : t.at_.tmod (n : Int) = q) (hi : i < n), (SignIs_pos q n i ∨ SignIs_neg q n i) → Calls Tryd.prog 43 #[.slice (some ⟨g, 0, none⟩) n c, .agg t.cells] w (TurnSaid n (some ⟨g, 0, none⟩) c base w) := by
    intro q i hq hi hs
    obtain ⟨x, hx⟩ : ∃ x, os[i]? = some x := ⟨_, List.getElem?_eq_getElem (by rw [hM.len]; exact hi)⟩
    obtain ⟨r, A8, c8⟩ := x
    by_cases k0 : t.kind = 0
    · rcases Nat.eq_zero_or_pos r.Data.length with hd | hd
      · rcases hs with hs | hs
        · exact turnedposEmpty t os n i g c base w q hq hs hi hn k0 hbase hM r A8 c8 hx hd
        · exact turnednegEmpty t os n i g c base w q hq hs hi hn k0 hbase hM r A8 c8 hx hd
      · obtain ⟨g8, rfl, _⟩ := (hM.dat.all _ (List.mem_of_getElem? (bs_get hx))).at_ hd
        have hsm := (hM.small _ (List.mem_of_getElem? hx)).2
        simp only at hsm
        obtain ⟨hb1, hb2⟩ := spot_lt t.by_ r.Data.length hd (by omega)
        by_cases hp : 0 ≤ t.by_.tmod (r.Data.length : Int)
        · have hbj : SignIs_pos (t.by_.tmod (r.Data.length : Int)) r.Data.length (t.by_.tmod (r.Data.length : Int)).toNat := by unfold SignIs_pos; omega
          rcases hs with hs | hs
          · exact turnedposFullpos t os n i g c base w q hq hs hi hn k0 hbase hM r g8 c8 hx _ _ rfl _ rfl hbj (by omega)
          · exact turnednegFullpos t os n i g c base w q hq hs hi hn k0 hbase hM r g8 c8 hx _ _ rfl _ rfl hbj (by omega)
        · have hbj : SignIs_neg (t.by_.tmod (r.Data.length : Int)) r.Data.length (t.by_.tmod (r.Data.length : Int) + r.Data.length).toNat := by unfold SignIs_neg wrap64; omega
          rcases hs with hs | hs
          · exact turnedposFullneg t os n i g c base w q hq hs hi hn k0 hbase hM r g8 c8 hx _ _ rfl _ rfl hbj (by omega)
          · exact turnednegFullneg t os n i g c base w q hq hs hi hn k0 hbase hM r g8 c8 hx _ _ rfl _ rfl hbj (by omega)
    by_cases k1 : t.kind = 1
    · rcases hs with hs | hs
      · exact turnedpos1 t os n i g c base w q hq hs hi hn k1 hbase hM
      · exact turnedneg1 t os n i g c base w q hq hs hi hn k1 hbase hM
    by_cases k2 : t.kind = 2
    · rcases hs with hs | hs
      · exact turnedpos2 t os n i g c base w q hq hs hi hn k2 hbase hM
      · exact turnedneg2 t os n i g c base w q hq hs hi hn k2 hbase hM
    by_cases k3 : t.kind = 3
    · rcases hs with hs | hs
      · exact turnedpos3 t os n i g c base w q hq hs hi hn k3 hbase hM
      · exact turnedneg3 t os n i g c base w q hq hs hi hn k3 hbase hM
    by_cases k4 : t.kind = 4
    · rcases hs with hs | hs
      · exact turnedpos4 t os n i g c base w q hq hs hi hn k4 hbase hM
      · exact turnedneg4 t os n i g c base w q hq hs hi hn k4 hbase hM
    · rcases hs with hs | hs
      · exact turnedposNone t os n i g c base w q hq hs hi hn ⟨k0, k1, k2, k3, k4⟩ hbase hM
      · exact turnednegNone t os n i g c base w q hq hs hi hn ⟨k0, k1, k2, k3, k4⟩ hbase hM
  by_cases hp : 0 ≤ t.at_.tmod (n : Int)
  · exact step _ (t.at_.tmod (n : Int)).toNat rfl (by omega) (.inl (by unfold SignIs_pos; omega))
  · exact step _ (t.at_.tmod (n : Int) + n).toNat rfl (by omega) (.inr (by unfold SignIs_neg wrap64; omega))
end Go.Proofs.YtikodgaomhmbmaaDoor
