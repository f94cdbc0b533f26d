/-
  RecordAgain: how pairs of numbers read, and what holds between its turns.
-/
import Derived.Test.YtikodgaomhmbmaaDoorFU
import Derived.Test.YtikodgaomhmbmaaDoorMHr
import Derived.OpenShut
import Derived.Test.YtikodgaomhmbmaaDoorM7r
import Derived.Test.YtikodgaomhmbmaaDoorMWbr
import Derived.Test.YtikodgaomhmbmaaDoorMJr
set_option linter.unusedVariables false
set_option linter.unusedSimpArgs false
namespace Go.Proofs.YtikodgaomhmbmaaDoor
open Go.ChangeShapes Go.WideShapes Go.ChangeAt Go.RowKit Go.Deep

set_option maxRecDepth 100000 in
theorem spot_calls (i : Int) (n : Nat) (hn : 0 < n) (hl : n ≤ 20000) (w : World) :
    Calls Tryd.prog 56 #[.int .i64 i, .int .i64 n] w fun e w' => ∃ p : Nat, e = .returned (.int .i64 p) ∧ Aside (p < n) ∧ Below w.heap.size w w' := by
  obtain ⟨z, hz⟩ : ∃ z, i.tmod (n : Int) = z := ⟨_, rfl⟩
  have h1 : z < n := by rw [← hz]; exact Int.tmod_lt_of_pos i (by omega)
  have h2 : -(n : Int) < z := by rw [← hz]; exact Int.lt_tmod_of_pos i (by omega)
  have h0 : ((n : Int) == 0) = false := by simp; omega
  have h0' : ((n : Int) = 0) = False := by simp; omega
  by_cases hk : z < 0
  · have s1 : decide (z < 0) = true := by simp [hk]
    obtain ⟨p, hp⟩ : ∃ p : Nat, z + (n : Int) = p := ⟨(z + n).toNat, by omega⟩
    have hpn : p < n := by omega
    go_enter Tryd.func56, Tryd.ntmps56
    go_wp2
    go_ret
    exact ⟨p, rfl, hpn, Below.refl _ _⟩
  · have s1 : decide (z < 0) = false := by simp; omega
    obtain ⟨p, rfl⟩ : ∃ p : Nat, z = p := ⟨z.toNat, by omega⟩
    have hpn : p < n := by omega
    go_enter Tryd.func56, Tryd.ntmps56
    go_wp2
    go_ret
    exact ⟨p, rfl, hpn, Below.refl _ _⟩

/-- Pairs of numbers as cells. -/
def prC (x : Int × Int) : List Value := [.int .i64 x.1, .int .i64 x.2]
def prCells (l : List (Int × Int)) : List Value := l.flatMap prC
theorem prCells_length (l : List (Int × Int)) : (prCells l).length = l.length * 2 := by
  unfold prCells
  induction l with
  | nil => rfl
  | cons x l ih => rw [List.flatMap_cons, List.length_append, ih, List.length_cons]; simp [prC]; omega
theorem prCells_get : ∀ {l : List (Int × Int)} {k : Nat} {x : Int × Int}, l[k]? = some x → ∀ i, i < 2 → (prCells l)[k * 2 + i]? = (prC x)[i]?
  | [], k, x, h, i, hi => by simp at h
  | y :: l, 0, x, h, i, hi => by
    simp at h
    subst h
    simp only [prCells, List.flatMap_cons, Nat.zero_mul, Nat.zero_add]
    rw [List.getElem?_append_left (by simpa [prC] using hi)]
  | y :: l, k + 1, x, h, i, hi => by
    have := prCells_get (l := l) (k := k) (x := x) (by simpa using h) i hi
    rw [← this]
    simp only [prCells, List.flatMap_cons]
    rw [List.getElem?_append_right (by simp [prC]; omega)]
    congr 1
    simp [prC]
    omega
def RPr (w : World) (A : Option Addr) (l : List (Int × Int)) : Prop := Reads w w.heap.size 2 A l.length (prCells l)
theorem RPr.next {w w' : World} {A : Option Addr} {l : List (Int × Int)} (h : RPr w A l) (hb : Below w.heap.size w w') : RPr w' A l := Reads.next h hb
theorem RPr.get {w : World} {A : Option Addr} {l : List (Int × Int)} (h : RPr w A l) {k : Nat} {x : Int × Int} (hx : l[k]? = some x) : ∃ ad, A = some ad ∧ ad.block < w.heap.size ∧ w.cell? (ad.add (k * 2)) = some (.int .i64 x.1) ∧ w.cell? ((ad.add (k * 2)).add 1) = some (.int .i64 x.2) := by
  have hk : k < l.length := (List.getElem?_eq_some_iff.1 hx).1
  obtain ⟨ad, e, hb, hc⟩ := h.2 (by omega)
  refine ⟨ad, e, hb, hc _ _ ?_, ?_⟩
  · have := prCells_get hx 0 (by omega)
    simpa [prC] using this
  · rw [add_of_add]
    refine hc _ _ ?_
    have := prCells_get hx 1 (by omega)
    simpa [prC] using this
section
variable {H : Type} {enc : TypeId × Value → H} {w : World} {base : Nat} {spare : Nat → Bool} {held : Bool}
theorem list2 {α : Type} {l : List α} (h : l.length = 2) : ∃ a b, l = [a, b] := by
  match l, h with
  | [a, b], _ => exact ⟨a, b, rfl⟩
theorem cells_pr : Tryd.prog.cellsOf 79 = 2 := by kernel_rfl
theorem trod_pr {fuel : Nat} {cs : List Value} {x : DataW H × List MemPlace} (h : DataW.trod enc Tryd.prog w base spare held fuel 79 cs = some x) : ∃ t : Int × Int, cs = prC t := by
  obtain ⟨xs, n, _, hx, hcl, hlen, hg⟩ := DataW.trod_array Tryd.underlying79 h
  rw [cells_pr] at hcl
  obtain ⟨c0, c1, rfl⟩ := list2 hcl
  obtain ⟨y0, y1, rfl⟩ := list2 hlen
  have ci : Tryd.prog.cellsOf 3 = 1 := by kernel_rfl
  obtain ⟨a, e0, z0, f0⟩ := DataW.trod_int Tryd.underlying3 (by simpa [ci] using hg 0 (by omega))
  obtain ⟨b, e1, z1, f1⟩ := DataW.trod_int Tryd.underlying3 (by simpa [ci] using hg 1 (by omega))
  simp only [List.cons.injEq, and_true] at e0 e1
  subst e0 e1
  exact ⟨⟨a, b⟩, rfl⟩
theorem trod_pairs {fuel : Nat} {cs : List Value} {x : DataW H × List MemPlace} (h : DataW.trod enc Tryd.prog w base spare held fuel 68 cs = some x) :
    ∃ (A : Option Addr) (l : List (Int × Int)) (c : Nat), cs = [.slice A l.length c] ∧ RPr w A l ∧ l.length ≤ c := by
  rcases open_slice Tryd.underlying68 h with ⟨rfl, rfl⟩ | ⟨a, len, cap, m, n, D, Pl, rfl, hb, hl, hm, hmm, rfl, hx⟩
  · exact ⟨none, [], 0, rfl, Reads.none_, by simp⟩
  · have hlm : len ≤ m := by rw [hmm]; split <;> omega
    have hall : ∀ i, i < len → ∃ y : Int × Int, w.cells? base (a.add (i * 2)) 2 = some (prC y) := by
      intro i hi
      obtain ⟨cs', h1, h2⟩ := hx i (by omega)
      rw [cells_pr] at h1
      obtain ⟨t, rfl⟩ := trod_pr h2
      exact ⟨t, h1⟩
    obtain ⟨f, hf⟩ := choose_lt hall
    refine ⟨some a, (List.range len).map f, cap, by simp, ⟨by rw [prCells_length], fun hn => ⟨a, rfl, ?_, ?_⟩⟩, by simpa using hl⟩
    · simp at hn
      have h1 := hf 0 hn
      obtain ⟨_, _, h3⟩ := World.cells?_some h1
      have := World.block_lt_of_cell? w _ ((h3 0 (by omega)).trans (by simp [prC]; rfl))
      rw [block_of_add, block_of_add] at this
      exact this
    · intro j u hu
      have hj : j < len * 2 := by
        have := (List.getElem?_eq_some_iff.1 hu).1
        rw [prCells_length] at this
        simpa using this
      have hk : j / 2 < len := by omega
      have hg : ((List.range len).map f)[j / 2]? = some (f (j / 2)) := by rw [List.getElem?_map, List.getElem?_range hk]; rfl
      have hr := prCells_get hg (j % 2) (by omega)
      rw [show j / 2 * 2 + j % 2 = j by omega, hu] at hr
      have h1 := hf _ hk
      obtain ⟨_, _, h3⟩ := World.cells?_some h1
      have := h3 (j % 2) (by omega)
      rw [add_of_add, show j / 2 * 2 + j % 2 = j by omega, ← hr] at this
      exact this
end
end Go.Proofs.YtikodgaomhmbmaaDoor
namespace Go.Proofs.YtikodgaomhmbmaaDoor
open Go.RowKit
attribute [local go_sem] Rec.size_ Rec.g0 Rec.g1 Rec.g2 Rec.g3 Rec.g4 Rec.g5 Rec.g6 Rec.g7 Rec.g8 Rec.g9 Rec.g10 Rec.g11 Rec.fold Rec.same_self

set_option maxHeartbeats 1000000 in
set_option maxRecDepth 100000 in
theorem refEncode_bad (r : Rec) (A : Option Addr) (c : Nat) (k : Int) (hk : r.chk = k) (h0 : k ≠ 0) (hz : r.Name.size ≤ 1099511627776) (w : World) (hT : RTabs w) (hd : RB w A r.Data) :
    Calls Tryd.prog 50 #[.agg (r.cells A c)] w fun e w' => e = .returned (.tuple #[.slice none 0 0, .int .i64 k]) ∧ Below w.heap.size w w' := by
  have HB := Below.refl w.heap.size w
  have HT := Lib.hid hT
  have t1 := int_bne_true h0
  have cc := fun w => ref_check_of r k hk A c hz w
  have Cc := Lib.hid cc
  clear hT cc hk h0
  go_enter Tryd.func50, Tryd.ntmps50
  go_wp2_with (first
    | ((with_reducible refine gate_dst (N := 1) rfl ?_); refine ev_box rfl rfl (r.cells A c) rfl ?_; intro g1 W1 hg1 hsz hbn; have hgr := grown_of_below hbn; have zg1 : w.heap.size ≤ g1 := (by have := HB.size; omega); replace HB := HB.grown hgr (by have := HB.size; omega) (by simp); have hcg1 := hg1.cell; have hfg1 := hg1.frozen; clear hsz hbn hgr)
    | ((with_reducible refine gate_dst (N := 9) rfl ?_); refine wpList_load_row rfl _ _ rfl g1 rfl _ _ (0, 0) _ hg1 Tryd.underlying27 rfl rec_size ?_)
    | (go_at_call 55; (with_reducible refine (Cc.out _ (HT.out.next HB) (hd.next HB)).mono ?_); rintro e W2 ⟨rfl, hb⟩; have hgr := grown_of_below hb; replace hg1 := hg1.grown hgr (by simp); replace HB := HB.grown hgr (by have := HB.size; omega) (by simp); replace hcg1 := hg1.cell; replace hfg1 := hg1.frozen; clear hb hgr))
  go_ret2
  exact ⟨rfl, HB⟩
theorem refAlike_nil (w : World) : Calls Tryd.prog 57 #[.slice none 0 0, .slice none 0 0] w fun e w' => e = .returned (.bool true) ∧ Below w.heap.size w w' :=
  refAlike_calls [] [] none none 0 0 w RB.nil RB.nil (by decide) (by decide)
theorem refAlike_true (l : List UInt8) (A B : Option Addr) (c d : Nat) (w : World) (ha : RB w A l) (hb : RB w B l) (hl : l.length ≤ 140737488351232) :
    Calls Tryd.prog 57 #[.slice A l.length c, .slice B l.length d] w fun e w' => e = .returned (.bool true) ∧ Below w.heap.size w w' := by
  have := refAlike_calls l l A B c d w ha hb hl hl
  simpa using this

theorem ints_code {r : Rec} (h : r.Ints) : -9223372036854775808 ≤ r.Code ∧ r.Code ≤ 9223372036854775807 := by
  simpa [Lit.wf, IntKind.min, IntKind.max, IntKind.signed, IntKind.bits] using h.code
end Go.Proofs.YtikodgaomhmbmaaDoor
namespace Go.Proofs.YtikodgaomhmbmaaDoor
open Go.RowKit

theorem refEnc_ob (r : Rec) (A : Option Addr) (c : Nat) (hf : r.Fits) (hz : r.Name.size ≤ 1099511627776) (hcd : -9223372036854775808 ≤ r.Code ∧ r.Code ≤ 9223372036854775807) (w : World) (hT : RTabs w) (hd : RB w A r.Data) :
    Calls Tryd.prog 50 #[.agg (r.cells A c)] w fun e w' => ∃ A' c', e = .returned (.tuple #[.slice A' (encL r).length c', .int .i64 r.chk]) ∧ OB w' w.heap.size A' c' (encL r) ∧ Below w.heap.size w w' := by
  by_cases hc : r.chk = 0
  · have e1 : encL r = r.enc := if_pos hc
    rw [e1, hc]
    exact (refEncode_calls r A c hf hcd w hT hd hc).mono fun e w' ⟨A', c', he, ho, hb⟩ => ⟨A', c', he, OB.of_own ho, hb⟩
  · have e1 : encL r = [] := if_neg hc
    rw [e1]
    exact (refEncode_bad r A c r.chk rfl hc hz w hT hd).mono fun e w' ⟨he, hb⟩ => ⟨none, 0, he, OB.nil, hb⟩
theorem size_all (r : Rec) (A : Option Addr) (c : Nat) (hf : r.Fits) (w : World) (hT : Tabs w) (hd : RB w A r.Data) :
    Calls Tryd.prog 51 #[.agg (r.cells A c)] w fun e w' => e = .returned (.tuple #[.int .i64 ((encL r).length : Nat), .int .i64 r.chk]) ∧ Below w.heap.size w w' := by
  by_cases hc : r.chk = 0
  · have e1 : encL r = r.enc := if_pos hc
    rw [e1, hc]
    exact size_calls r A c hc hf w hT hd
  · have e1 : encL r = [] := if_neg hc
    rw [e1]
    exact size_bad r A c r.chk rfl hc hf w hT hd

theorem refDec_n (v : Int) (l : List UInt8) (n : Nat) (hn : l.length = n) (hl : n ≤ 140737488351232) (L : Option Addr) (cl : Nat) (w : World) (hR : RTabs w) (hd : RB w L l) :
    Calls Tryd.prog 48 #[.int .i64 v, .slice L n cl] w fun e w' => ∃ A' c', e = .returned (.tuple #[.agg ((decR v l).cells A' c'), .int .i64 (decE v l)]) ∧ RU w' A' (decR v l).Data ∧ Below w.heap.size w w' := by
  subst hn
  exact refDecode_calls v l L cl hl w hR hd
theorem num3_lat (v : Int) {w : World} (u : Later w) : Calls Tryd.prog 53 #[.int .i64 v] u.1 fun e w' => e = .returned (.int .i64 v) ∧ ∃ u' : Later w, w' = u'.1 := (num3_calls v u.1).mono fun e w' ⟨he, hw⟩ => ⟨he, ⟨u, hw.symm⟩⟩
theorem num3_b (v : Int) (w : World) : Calls Tryd.prog 53 #[.int .i64 v] w fun e w' => e = .returned (.int .i64 v) ∧ Below w.heap.size w w' := (num3_calls v w).mono fun e w' ⟨he, hw⟩ => ⟨he, hw ▸ Below.refl _ _⟩
theorem alike_n (l : List UInt8) (n : Nat) (hn : l.length = n) (A B : Option Addr) (c d : Nat) (hl : n ≤ 140737488351232) (w : World) (ha : RB w A l) (hb : RB w B l) :
    Calls Tryd.prog 54 #[.slice A n c, .slice B n d] w fun e w' => e = .returned (.bool true) ∧ Below w.heap.size w w' := by
  subst hn
  exact alike_same l A B c d w ha hb hl
theorem own_ob {w w1 : World} {base b size n c : Nat} {e : TypeId} {v : Value} {xs : List Value} {A : Option Addr} {l : List UInt8} (ho : w.ownsRow b e size v n xs) (h : OB w base A c l) (hgr : w.grownBy w1 (A.map (·.block))) (hne : 5 ≠ e) : w1.ownsRow b e size v n xs := by
  refine ho.kept hgr ?_
  cases hA : A with
  | none => cases v.ownBlock <;> simp
  | some ad => exact .inr fun e2 => h.ne_own ho hne ad hA e2.symm
theorem OB.kept_apart {w w' : World} {base c : Nat} {A B : Option Addr} {l : List UInt8} (h : OB w base B c l) (hgr : w.grownBy w' (A.map (·.block))) (hd : Apart A B) : OB w' base B c l := h.kept hgr fun b hb e => by
  cases hA : A with
  | none => rw [hA] at e; cases e
  | some a =>
    rw [hA] at e
    injection e with e
    exact hd a b hA hb e.symm
theorem RU.kept_apart {w w' : World} {A B : Option Addr} {l : List UInt8} (h : RU w B l) (hgr : w.grownBy w' (A.map (·.block))) (hd : Apart A B) : RU w' B l := h.kept hgr fun _ b hb e => by
  cases hA : A with
  | none => rw [hA] at e; cases e
  | some a =>
    rw [hA] at e
    injection e with e
    exact hd a b hA hb e.symm
theorem OBs.kept_apart {w w' : World} {base : Nat} {A : Option Addr} {os : List BA} (h : OBs w base os) (hgr : w.grownBy w' (A.map (·.block))) (hd : ∀ x ∈ os, Apart A x.2.1) : OBs w' base os := ⟨fun x hx => (h.all x hx).kept_apart hgr (hd x hx), h.apart⟩
theorem Blk.kept_ob {w w' : World} {g base c : Nat} {t : TypeId} {cs : Array Value} {A : Option Addr} {l : List UInt8} (hg : Blk w g t cs) (h : OB w base A c l) (hgr : w.grownBy w' (A.map (·.block))) (hne : 5 ≠ t) : Blk w' g t cs := by
  refine hg.grown hgr fun e => ?_
  cases hA : A with
  | none => rw [hA] at e; cases e
  | some a =>
    rw [hA] at e
    exact h.ne_blk hg hne a hA e.symm

/-- The record is the first one but for its data's bytes. -/
structure AgQ (R0 q : Rec) : Prop where
  data : q.Data.length = R0.Data.length
  name : q.Name = R0.Name
  code : q.Code = R0.Code
theorem AgQ.refl (R : Rec) : AgQ R R := ⟨rfl, rfl, rfl⟩
theorem AgQ.set {R0 q : Rec} (h : AgQ R0 q) (p : Nat) (b : UInt8) : AgQ R0 { q with Data := q.Data.set p b } := ⟨by simp [h.data], h.name, h.code⟩
theorem cells_set (q : Rec) (A : Option Addr) (c p : Nat) (b : UInt8) : ({ q with Data := q.Data.set p b } : Rec).cells A c = q.cells A c := by simp [Rec.cells]
abbrev AC := Option Addr × Nat
/-- What holds ahead of turn k. -/
structure AgSt (w wr : World) (nb : Nat) (R0 : Rec) (g10 g11 : Nat) (a9 a10 a11 : AC) (k : Nat) (bf : List UInt8) (q : Rec) (a12 a13 a14 a15 : AC) (os ws : List RA) (bt xs : List BA) : Prop where
  below : Below w.heap.size w wr
  buf : OB wr w.heap.size a9.1 a9.2 bf
  bufl : bf.length = nb
  rec_ : Blk wr g10 27 (q.cells a10.1 a10.2)
  qok : AgQ R0 q
  data : OB wr w.heap.size a10.1 a10.2 q.Data
  first : Blk wr g11 27 (R0.cells a11.1 a11.2)
  firstd : OB wr w.heap.size a11.1 a11.2 R0.Data
  z10 : w.heap.size ≤ g10
  z11 : w.heap.size ≤ g11
  ne : g10 ≠ g11
  o12 : wr.ownsRow w.heap.size 27 12 (.slice a12.1 (4 * k) a12.2) (4 * k) (recCells os)
  o13 : wr.ownsRow w.heap.size 27 12 (.slice a13.1 (4 * k) a13.2) (4 * k) (recCells ws)
  o14 : wr.ownsRow w.heap.size 25 1 (.slice a14.1 (2 * k) a14.2) (2 * k) (baCells bt)
  o15 : wr.ownsRow w.heap.size 25 1 (.slice a15.1 (2 * k) a15.2) (2 * k) (baCells xs)
  n12 : (Value.slice a12.1 (4 * k) a12.2).ownBlock ≠ some g10 ∧ (Value.slice a12.1 (4 * k) a12.2).ownBlock ≠ some g11
  n13 : (Value.slice a13.1 (4 * k) a13.2).ownBlock ≠ some g10 ∧ (Value.slice a13.1 (4 * k) a13.2).ownBlock ≠ some g11
  d1213 : (Value.slice a12.1 (4 * k) a12.2).ownBlock = none ∨ (Value.slice a12.1 (4 * k) a12.2).ownBlock ≠ (Value.slice a13.1 (4 * k) a13.2).ownBlock
  d1415 : (Value.slice a14.1 (2 * k) a14.2).ownBlock = none ∨ (Value.slice a14.1 (2 * k) a14.2).ownBlock ≠ (Value.slice a15.1 (2 * k) a15.2).ownBlock
  Qs : OBs wr w.heap.size (bs os)
  Qb : OBs wr w.heap.size bt
  Sw : RUs wr ws
  Zx : RZs wr xs
  dsb : AllApart (bs os) bt
  ap9 : ∀ x ∈ bs os ++ bs ws ++ bt ++ xs, Apart a9.1 x.2.1
  ap10 : ∀ x ∈ bs os ++ bs ws ++ bt ++ xs, Apart a10.1 x.2.1
  d910 : Apart a9.1 a10.1
  d911 : Apart a9.1 a11.1
  d1011 : Apart a10.1 a11.1
  same : os.map (fun x => x.1) = ws.map (fun x => x.1)
  sameb : bt.map (fun x => x.1) = xs.map (fun x => x.1)
  lo : os.length = 4 * k
  lb : bt.length = 2 * k
  short : ∀ y ∈ os, y.1.Fits ∧ y.1.Data.length ≤ 1048576
  shortb : ∀ x ∈ bt, x.1.length ≤ 1048576
section
variable {w wr W : World} {nb : Nat} {R0 : Rec} {g10 g11 : Nat} {a9 a10 a11 : AC} {k : Nat} {bf : List UInt8} {q : Rec} {a12 a13 a14 a15 : AC} {os ws : List RA} {bt xs : List BA}
theorem grown_ob {w wr W : World} {c : Nat} {A : Option Addr} {l : List UInt8} (hb : Below w.heap.size w wr) (h : OB wr w.heap.size A c l) (hgr : wr.grownBy W (A.map (·.block))) : Below w.heap.size w W :=
  hb.grown hgr hb.size fun k e => by
    cases hA : A with
    | none => rw [hA] at e; cases e
    | some a =>
      rw [hA] at e
      injection e with e
      have e : a.block = k := e
      have := (h.lt hA).1
      omega
theorem AgSt.start {lb : List UInt8} (h1 : Below w.heap.size w wr) (h2 : OB wr w.heap.size a9.1 a9.2 lb) (h3 : lb.length = nb) (h4 : Blk wr g10 27 (R0.cells a10.1 a10.2)) (h5 : OB wr w.heap.size a10.1 a10.2 R0.Data) (h6 : Blk wr g11 27 (R0.cells a11.1 a11.2)) (h7 : OB wr w.heap.size a11.1 a11.2 R0.Data)
    (z10 : w.heap.size ≤ g10) (z11 : w.heap.size ≤ g11) (ne : g10 ≠ g11) (d1 : Apart a9.1 a10.1) (d2 : Apart a9.1 a11.1) (d3 : Apart a10.1 a11.1) : AgSt w wr nb R0 g10 g11 a9 a10 a11 0 lb R0 (none, 0) (none, 0) (none, 0) (none, 0) [] [] [] [] :=
  ⟨h1, h2, h3, h4, AgQ.refl _, h5, h6, h7, z10, z11, ne, own_nil _ _ _ _, own_nil _ _ _ _, own_nil _ _ _ _, own_nil _ _ _ _, by simp [Value.ownBlock], by simp [Value.ownBlock], .inl rfl, .inl rfl, OBs.nil, OBs.nil, RUs.nil, RZs.nil, fun x hx => by simp [bs] at hx, fun x hx => by simp [bs] at hx, fun x hx => by simp [bs] at hx, d1, d2, d3, rfl, rfl, rfl, rfl, fun x hx => by simp at hx, fun x hx => by simp at hx⟩
/-- A byte is written into the buffer. -/
theorem AgSt.byte (h : AgSt w wr nb R0 g10 g11 a9 a10 a11 k bf q a12 a13 a14 a15 os ws bt xs) {bf' : List UInt8} (hl : bf'.length = nb) (hB : OB W w.heap.size a9.1 a9.2 bf') (hgr : wr.grownBy W (a9.1.map (·.block))) : AgSt w W nb R0 g10 g11 a9 a10 a11 k bf' q a12 a13 a14 a15 os ws bt xs :=
  ⟨grown_ob h.below h.buf hgr, hB, hl, h.rec_.kept_ob h.buf hgr (by decide), h.qok, h.data.kept_apart hgr h.d910, h.first.kept_ob h.buf hgr (by decide), h.firstd.kept_apart hgr h.d911, h.z10, h.z11, h.ne,
    own_ob h.o12 h.buf hgr (by decide), own_ob h.o13 h.buf hgr (by decide), own_ob h.o14 h.buf hgr (by decide), own_ob h.o15 h.buf hgr (by decide), h.n12, h.n13, h.d1213, h.d1415,
    h.Qs.kept_apart hgr (fun x hx => h.ap9 x (by simp [hx])), h.Qb.kept_apart hgr (fun x hx => h.ap9 x (by simp [hx])), (fun x hx => (h.Sw x hx).kept_apart hgr (h.ap9 (x.1.Data, x.2.1, x.2.2) (by simp [bs, List.mem_map]; right; left; exact ⟨_, _, _, hx, rfl, rfl, rfl⟩))), (fun x hx => (h.Zx x hx).kept_apart hgr (h.ap9 x (by simp [hx]))),
    h.dsb, h.ap9, h.ap10, h.d910, h.d911, h.d1011, h.same, h.sameb, h.lo, h.lb, h.short, h.shortb⟩
/-- A byte is written into the record's data. -/
theorem AgSt.datum (h : AgSt w wr nb R0 g10 g11 a9 a10 a11 k bf q a12 a13 a14 a15 os ws bt xs) (p : Nat) (b : UInt8) (hB : OB W w.heap.size a10.1 a10.2 (q.Data.set p b)) (hgr : wr.grownBy W (a10.1.map (·.block))) : AgSt w W nb R0 g10 g11 a9 a10 a11 k bf { q with Data := q.Data.set p b } a12 a13 a14 a15 os ws bt xs :=
  ⟨grown_ob h.below h.data hgr, h.buf.kept_apart hgr h.d910.symm, h.bufl, by rw [cells_set]; exact h.rec_.kept_ob h.data hgr (by decide), h.qok.set p b, hB, h.first.kept_ob h.data hgr (by decide), h.firstd.kept_apart hgr h.d1011, h.z10, h.z11, h.ne,
    own_ob h.o12 h.data hgr (by decide), own_ob h.o13 h.data hgr (by decide), own_ob h.o14 h.data hgr (by decide), own_ob h.o15 h.data hgr (by decide), h.n12, h.n13, h.d1213, h.d1415,
    h.Qs.kept_apart hgr (fun x hx => h.ap10 x (by simp [hx])), h.Qb.kept_apart hgr (fun x hx => h.ap10 x (by simp [hx])), (fun x hx => (h.Sw x hx).kept_apart hgr (h.ap10 (x.1.Data, x.2.1, x.2.2) (by simp [bs, List.mem_map]; right; left; exact ⟨_, _, _, hx, rfl, rfl, rfl⟩))), (fun x hx => (h.Zx x hx).kept_apart hgr (h.ap10 x (by simp [hx]))),
    h.dsb, h.ap9, h.ap10, h.d910, h.d911, h.d1011, h.same, h.sameb, h.lo, h.lb, h.short, h.shortb⟩
theorem AgSt.next (h : AgSt w wr nb R0 g10 g11 a9 a10 a11 k bf q a12 a13 a14 a15 os ws bt xs) (hb : Below wr.heap.size wr W) : AgSt w W nb R0 g10 g11 a9 a10 a11 k bf q a12 a13 a14 a15 os ws bt xs :=
  ⟨below_go h.below hb, h.buf.next hb, h.bufl, h.rec_.next hb, h.qok, h.data.next hb, h.first.next hb, h.firstd.next hb, h.z10, h.z11, h.ne, own_next h.o12 hb, own_next h.o13 hb, own_next h.o14 hb, own_next h.o15 hb, h.n12, h.n13, h.d1213, h.d1415,
    h.Qs.next hb, h.Qb.next hb, (fun x hx => (h.Sw x hx).next hb), h.Zx.next hb, h.dsb, h.ap9, h.ap10, h.d910, h.d911, h.d1011, h.same, h.sameb, h.lo, h.lb, h.short, h.shortb⟩
end
end Go.Proofs.YtikodgaomhmbmaaDoor
namespace Go.Proofs.YtikodgaomhmbmaaDoor
open Go.RowKit

theorem decR_fits (v : Int) (l : List UInt8) : (decR v l).Fits := by
  by_cases h0 : decE v l = 0
  · obtain ⟨_, e2, _, _⟩ := enc_of_dec h0
    have := valid_small e2
    exact ⟨by have := this.1; omega, by have := this.2; omega⟩
  · rw [show decR v l = Rec.zero from if_neg h0]
    exact Rec.Fits.zero
section
variable {w wr W : World} {nb : Nat} {R0 : Rec} {g10 g11 : Nat} {a9 a10 a11 : AC} {k : Nat} {bf : List UInt8} {q : Rec} {a12 a13 a14 a15 b12 b13 b14 b15 : AC} {os ws : List RA} {bt xs : List BA}
theorem OBs.list2 {base : Nat} {x y : BA} (hx : OB W base x.2.1 x.2.2 x.1) (hy : OB W base y.2.1 y.2.2 y.1) (d : Apart x.2.1 y.2.1) : OBs W base [x, y] :=
  ⟨fun z hz => by simp only [List.mem_cons, List.not_mem_nil, or_false] at hz; rcases hz with rfl | rfl <;> assumption, by simp [d]⟩
theorem OBs.list4 {base : Nat} {x y z u : BA} (hx : OB W base x.2.1 x.2.2 x.1) (hy : OB W base y.2.1 y.2.2 y.1) (hz : OB W base z.2.1 z.2.2 z.1) (hu : OB W base u.2.1 u.2.2 u.1)
    (d1 : Apart x.2.1 y.2.1) (d2 : Apart x.2.1 z.2.1) (d3 : Apart x.2.1 u.2.1) (d4 : Apart y.2.1 z.2.1) (d5 : Apart y.2.1 u.2.1) (d6 : Apart z.2.1 u.2.1) : OBs W base [x, y, z, u] :=
  ⟨fun t ht => by simp only [List.mem_cons, List.not_mem_nil, or_false] at ht; rcases ht with rfl | rfl | rfl | rfl <;> assumption, by simp [d1, d2, d3, d4, d5, d6]⟩
theorem all4 {α : Type} {p : α → Prop} {x y z u : α} (h1 : p x) (h2 : p y) (h3 : p z) (h4 : p u) : ∀ t ∈ [x, y, z, u], p t := fun t ht => by
  simp only [List.mem_cons, List.not_mem_nil, or_false] at ht
  rcases ht with rfl | rfl | rfl | rfl <;> assumption
theorem all2 {α : Type} {p : α → Prop} {x y : α} (h1 : p x) (h2 : p y) : ∀ t ∈ [x, y], p t := fun t ht => by
  simp only [List.mem_cons, List.not_mem_nil, or_false] at ht
  rcases ht with rfl | rfl <;> assumption
theorem AgSt.kept {row : Option Nat} (h : AgSt w wr nb R0 g10 g11 a9 a10 a11 k bf q a12 a13 a14 a15 os ws bt xs) (hgr : wr.grownBy W row) (hne : row = none) : AgSt w W nb R0 g10 g11 a9 a10 a11 k bf q a12 a13 a14 a15 os ws bt xs :=
  h.next ⟨hgr.os, hgr.tape, hgr.output, hgr.size, fun i hi => hgr.block i hi (by rw [hne]; simp)⟩
theorem wrap_byte (y : Int) : ∃ b : UInt8, IntKind.u8.wrap y = (b.toNat : Int) := by
  refine ⟨UInt8.ofNat (y % 256).toNat, ?_⟩
  rw [IntKind.wrap_u8, UInt8.toNat_ofNat']
  omega
/-- Behind the appends of a turn. -/
theorem AgSt.turn (h : AgSt w wr nb R0 g10 g11 a9 a10 a11 k bf q a12 a13 a14 a15 os ws bt xs) {no nw : List RA} {nt nx : List BA} (HB : Below w.heap.size w W) (B9 : OB W w.heap.size a9.1 a9.2 bf) (hg10 : Blk W g10 27 (q.cells a10.1 a10.2)) (B10 : OB W w.heap.size a10.1 a10.2 q.Data) (hg11 : Blk W g11 27 (R0.cells a11.1 a11.2)) (B11 : OB W w.heap.size a11.1 a11.2 R0.Data)
    (o12 : W.ownsRow w.heap.size 27 12 (.slice b12.1 (4 * k + 4) b12.2) (4 * k + 4) (recCells os ++ recCells no)) (o13 : W.ownsRow w.heap.size 27 12 (.slice b13.1 (4 * k + 4) b13.2) (4 * k + 4) (recCells ws ++ recCells nw))
    (o14 : W.ownsRow w.heap.size 25 1 (.slice b14.1 (2 * k + 2) b14.2) (2 * k + 2) (baCells bt ++ baCells nt)) (o15 : W.ownsRow w.heap.size 25 1 (.slice b15.1 (2 * k + 2) b15.2) (2 * k + 2) (baCells xs ++ baCells nx))
    (n12 : (Value.slice b12.1 (4 * k + 4) b12.2).ownBlock ≠ some g10 ∧ (Value.slice b12.1 (4 * k + 4) b12.2).ownBlock ≠ some g11) (n13 : (Value.slice b13.1 (4 * k + 4) b13.2).ownBlock ≠ some g10 ∧ (Value.slice b13.1 (4 * k + 4) b13.2).ownBlock ≠ some g11)
    (d1213 : (Value.slice b12.1 (4 * k + 4) b12.2).ownBlock = none ∨ (Value.slice b12.1 (4 * k + 4) b12.2).ownBlock ≠ (Value.slice b13.1 (4 * k + 4) b13.2).ownBlock) (d1415 : (Value.slice b14.1 (2 * k + 2) b14.2).ownBlock = none ∨ (Value.slice b14.1 (2 * k + 2) b14.2).ownBlock ≠ (Value.slice b15.1 (2 * k + 2) b15.2).ownBlock)
    (Qs : OBs W w.heap.size (bs os)) (Qb : OBs W w.heap.size bt) (Sw : RUs W ws) (Zx : RZs W xs) (Qn : OBs W w.heap.size (bs no)) (Qt : OBs W w.heap.size nt) (Sn : RUs W nw) (Zn : RZs W nx)
    (d1 : AllApart (bs os) (bs no)) (d2 : AllApart bt nt) (d3 : AllApart (bs os) nt) (d4 : AllApart (bs no) bt) (d5 : AllApart (bs no) nt) (p9 : ∀ x ∈ bs no ++ bs nw ++ nt ++ nx, Apart a9.1 x.2.1) (p10 : ∀ x ∈ bs no ++ bs nw ++ nt ++ nx, Apart a10.1 x.2.1)
    (s1 : no.map (fun x => x.1) = nw.map (fun x => x.1)) (s2 : nt.map (fun x => x.1) = nx.map (fun x => x.1)) (l1 : no.length = 4) (l2 : nt.length = 2) (f1 : ∀ y ∈ no, y.1.Fits ∧ y.1.Data.length ≤ 1048576) (f2 : ∀ x ∈ nt, x.1.length ≤ 1048576) :
    AgSt w W nb R0 g10 g11 a9 a10 a11 (k + 1) bf q b12 b13 b14 b15 (os ++ no) (ws ++ nw) (bt ++ nt) (xs ++ nx) := by
  have bsa : ∀ (a b : List RA), bs (a ++ b) = bs a ++ bs b := fun a b => by simp [bs]
  have hap : ∀ {A : Option Addr}, (∀ x ∈ bs os ++ bs ws ++ bt ++ xs, Apart A x.2.1) → (∀ x ∈ bs no ++ bs nw ++ nt ++ nx, Apart A x.2.1) → ∀ x ∈ bs (os ++ no) ++ bs (ws ++ nw) ++ (bt ++ nt) ++ (xs ++ nx), Apart A x.2.1 := fun h1 h2 x hx => by
    rw [bsa, bsa] at hx
    simp only [List.mem_append] at hx
    rcases hx with ((hx | hx) | hx) | hx <;> rcases hx with hx | hx <;> first | exact h1 x (by simp only [List.mem_append]; simp [hx]) | exact h2 x (by simp only [List.mem_append]; simp [hx])
  refine ⟨HB, B9, h.bufl, hg10, h.qok, B10, hg11, B11, h.z10, h.z11, h.ne, by rw [recCells_append]; exact o12, by rw [recCells_append]; exact o13, by rw [baCells_append]; exact o14, by rw [baCells_append]; exact o15, n12, n13, d1213, d1415, by rw [bsa]; exact Qs.append Qn d1, Qb.append Qt d2, fun x hx => ?_, fun x hx => ?_, fun x hx y hy => ?_, hap h.ap9 p9, hap h.ap10 p10, h.d910, h.d911, h.d1011, by rw [List.map_append, List.map_append, h.same, s1], by rw [List.map_append, List.map_append, h.sameb, s2], by rw [List.length_append, h.lo, l1]; omega, by rw [List.length_append, h.lb, l2]; omega, fun y hy => ?_, fun y hy => ?_⟩
  · exact (List.mem_append.1 hx).elim (Sw x) (Sn x)
  · exact (List.mem_append.1 hx).elim (Zx x) (Zn x)
  · rw [bsa] at hx
    rcases List.mem_append.1 hx with hx | hx <;> rcases List.mem_append.1 hy with hy | hy
    · exact h.dsb x hx y hy
    · exact d3 x hx y hy
    · exact d4 x hx y hy
    · exact d5 x hx y hy
  · exact (List.mem_append.1 hy).elim (h.short y) (f1 y)
  · exact (List.mem_append.1 hy).elim (h.shortb y) (f2 y)
end
theorem RB.begin_ {w : World} {A : Option Addr} {b m : List UInt8} (ha : RB w A (b ++ m)) : RB w A b := by
  refine ⟨by simp [u8s], fun hn => ?_⟩
  obtain ⟨ad, e, hlt, hcc⟩ := ha.2 (by rw [List.length_append]; omega)
  refine ⟨ad, e, hlt, fun j u hu => hcc j u ?_⟩
  have hj : j < (u8s b).length := (List.getElem?_eq_some_iff.1 hu).1
  rw [u8s_append, List.getElem?_append_left hj]
  exact hu
theorem same3_true (a : Rec) (A B : Option Addr) (c d : Nat) (w : World) (ha : RB w A a.Data) (hb : RB w B a.Data) :
    Calls Tryd.prog 18 #[.agg (a.cells A c), .agg (a.cells B d)] w fun e w' => e = .returned (.bool true) ∧ Below w.heap.size w w' := by
  have := same_calls a a A B c d w ha hb
  rwa [Rec.same_self] at this
theorem RUs.next {w w' : World} {os : List RA} (h : RUs w os) (hb : Below w.heap.size w w') : RUs w' os := fun x hx => (h x hx).next hb
end Go.Proofs.YtikodgaomhmbmaaDoor
namespace Go.Proofs.YtikodgaomhmbmaaDoor
open Go.RowKit

theorem refSameAll_m (l m : List RA) (n : Nat) (hn : l.length = n) (A B : Option Addr) (c d : Nat) (hlm : l.map (·.1) = m.map (·.1)) (hl : n ≤ 140737488351232) (hfit : ∀ y ∈ l, y.1.Fits) (w : World) (ha : RR w A l) (hb : RR w B m) :
    Calls Tryd.prog 25 #[.slice A n c, .slice B n d] w fun e w' => e = .returned (.bool true) ∧ Below w.heap.size w w' := by
  subst hn
  have := refSameAll_calls l m A B c d hlm hl hfit w ha hb
  rwa [map_len hlm.symm] at this
end Go.Proofs.YtikodgaomhmbmaaDoor
