/-
  The words of this seat's proofs: records as rows of twelve cells, slices that read as lists, blocks that are known whole, and the steps of a walk that make or write memory.
-/
import Derived.Test.YtikodgaomhmbmaaDoorProg
import Derived.WalkKit
import Derived.WalkSpells
import Derived.WalkLawsBesides
import Derived.Deep.QuietTactic
import Derived.BigQuiet
import Derived.Deep.LoopGhost
import Derived.Lib.Hide
import Derived.Deep.Draws
import Derived.Deep.AppendLies
import Derived.Maps.AppendAt
import Derived.Laws.OwnMore
import Derived.Laws.Rows
import Derived.RegionTactic
import Derived.OwnWalk
set_option linter.unusedVariables false
set_option linter.unusedSimpArgs false
namespace Go.Proofs.YtikodgaomhmbmaaDoor
open Go.RowKit

/-! ### Records -/
structure Rec where
  V : Int
  Kind : Int
  Saga : Int
  Step : Int
  Try : Int
  At : Int
  Last : Int
  Code : Int
  Count : Int
  Pivot : Int
  Name : ByteArray
  Data : List UInt8

/-- A record's twelve cells; its Data's slice value is (A, its length, c). -/
def Rec.cells (r : Rec) (A : Option Addr) (c : Nat) : Array Value :=
  #[.int .i64 r.V, .int .i64 r.Kind, .int .i64 r.Saga, .int .i64 r.Step, .int .i64 r.Try, .int .i64 r.At, .int .i64 r.Last, .int .i64 r.Code, .int .i64 r.Count, .int .i64 r.Pivot, .string r.Name, .slice A r.Data.length c]

section
variable (r : Rec) (A : Option Addr) (c : Nat)
theorem Rec.size_ : (r.cells A c).size = 12 := rfl
theorem Rec.g0 : (r.cells A c)[0]? = some (.int .i64 r.V) := rfl
theorem Rec.g1 : (r.cells A c)[1]? = some (.int .i64 r.Kind) := rfl
theorem Rec.g2 : (r.cells A c)[2]? = some (.int .i64 r.Saga) := rfl
theorem Rec.g3 : (r.cells A c)[3]? = some (.int .i64 r.Step) := rfl
theorem Rec.g4 : (r.cells A c)[4]? = some (.int .i64 r.Try) := rfl
theorem Rec.g5 : (r.cells A c)[5]? = some (.int .i64 r.At) := rfl
theorem Rec.g6 : (r.cells A c)[6]? = some (.int .i64 r.Last) := rfl
theorem Rec.g7 : (r.cells A c)[7]? = some (.int .i64 r.Code) := rfl
theorem Rec.g8 : (r.cells A c)[8]? = some (.int .i64 r.Count) := rfl
theorem Rec.g9 : (r.cells A c)[9]? = some (.int .i64 r.Pivot) := rfl
theorem Rec.g10 : (r.cells A c)[10]? = some (.string r.Name) := rfl
theorem Rec.g11 : (r.cells A c)[11]? = some (.slice A r.Data.length c) := rfl
theorem Rec.s0 (x : Int) : (r.cells A c).setIfInBounds 0 (.int .i64 x) = ({ r with V := x }).cells A c := rfl
theorem Rec.s1 (x : Int) : (r.cells A c).setIfInBounds 1 (.int .i64 x) = ({ r with Kind := x }).cells A c := rfl
theorem Rec.s2 (x : Int) : (r.cells A c).setIfInBounds 2 (.int .i64 x) = ({ r with Saga := x }).cells A c := rfl
theorem Rec.s3 (x : Int) : (r.cells A c).setIfInBounds 3 (.int .i64 x) = ({ r with Step := x }).cells A c := rfl
theorem Rec.s4 (x : Int) : (r.cells A c).setIfInBounds 4 (.int .i64 x) = ({ r with Try := x }).cells A c := rfl
theorem Rec.s5 (x : Int) : (r.cells A c).setIfInBounds 5 (.int .i64 x) = ({ r with At := x }).cells A c := rfl
theorem Rec.s6 (x : Int) : (r.cells A c).setIfInBounds 6 (.int .i64 x) = ({ r with Last := x }).cells A c := rfl
theorem Rec.s7 (x : Int) : (r.cells A c).setIfInBounds 7 (.int .i64 x) = ({ r with Code := x }).cells A c := rfl
theorem Rec.s8 (x : Int) : (r.cells A c).setIfInBounds 8 (.int .i64 x) = ({ r with Count := x }).cells A c := rfl
theorem Rec.s9 (x : Int) : (r.cells A c).setIfInBounds 9 (.int .i64 x) = ({ r with Pivot := x }).cells A c := rfl
theorem Rec.s10 (x : ByteArray) : (r.cells A c).setIfInBounds 10 (.string x) = ({ r with Name := x }).cells A c := rfl
theorem Rec.s11 (l : List UInt8) (A' : Option Addr) (c' : Nat) : (r.cells A c).setIfInBounds 11 (.slice A' l.length c') = ({ r with Data := l }).cells A' c' := rfl
end

/-- The record of zeros. -/
def Rec.zero : Rec := { V := 0, Kind := 0, Saga := 0, Step := 0, Try := 0, At := 0, Last := 0, Code := 0, Count := 0, Pivot := 0, Name := ⟨#[]⟩, Data := [] }

/-- Each number of a record is an int. -/
structure Rec.Ok (r : Rec) : Prop where
  v : -9223372036854775808 ≤ r.V ∧ r.V ≤ 9223372036854775807
  kind : -9223372036854775808 ≤ r.Kind ∧ r.Kind ≤ 9223372036854775807
  saga : -9223372036854775808 ≤ r.Saga ∧ r.Saga ≤ 9223372036854775807
  step : -9223372036854775808 ≤ r.Step ∧ r.Step ≤ 9223372036854775807
  try_ : -9223372036854775808 ≤ r.Try ∧ r.Try ≤ 9223372036854775807
  at_ : -9223372036854775808 ≤ r.At ∧ r.At ≤ 9223372036854775807
  last : -9223372036854775808 ≤ r.Last ∧ r.Last ≤ 9223372036854775807
  code : -9223372036854775808 ≤ r.Code ∧ r.Code ≤ 9223372036854775807
  count : -9223372036854775808 ≤ r.Count ∧ r.Count ≤ 9223372036854775807
  pivot : -9223372036854775808 ≤ r.Pivot ∧ r.Pivot ≤ 9223372036854775807
  name : r.Name.size ≤ 140737488351232
  data : r.Data.length ≤ 140737488351232

/-! ### Slices that read as lists -/
theorem block_of_add (a : Addr) (n : Nat) : (a.add n).block = a.block := by unfold Addr.add; split <;> rfl
theorem add_of_add (a : Addr) (i j : Nat) : (a.add i).add j = a.add (i + j) := by
  unfold Addr.add
  by_cases hi : i = 0 <;> by_cases hj : j = 0 <;> simp [hi, hj, Nat.add_assoc]

/-- The slice value (A, n, whatever) holds the cells xs and lies below block B. -/
def Reads (w : World) (B size : Nat) (A : Option Addr) (n : Nat) (xs : List Value) : Prop :=
  xs.length = n * size ∧ (0 < n → ∃ ad, A = some ad ∧ ad.block < B ∧ ∀ j u, xs[j]? = some u → w.cell? (ad.add j) = some u)

section
variable {w w' : World} {B B' size n : Nat} {A : Option Addr} {xs : List Value}
theorem Reads.none_ : Reads w B size A 0 [] := ⟨by simp, fun h => absurd h (by omega)⟩
theorem Reads.at_ {k : Nat} (h : Reads w B 1 A n xs) (hk : k < n) : ∃ ad u, A = some ad ∧ ad.block < B ∧ xs[k]? = some u ∧ w.cell? (ad.add k) = some u := by
  obtain ⟨ad, e, hb, hc⟩ := h.2 (by omega)
  have hl : k < xs.length := by have := h.1; omega
  exact ⟨ad, xs[k], e, hb, List.getElem?_eq_getElem hl, hc k _ (List.getElem?_eq_getElem hl)⟩
theorem Reads.keep (h : Reads w B size A n xs) (hk : ∀ p : Addr, p.block < B → w'.cell? p = w.cell? p) : Reads w' B size A n xs :=
  ⟨h.1, fun hn => by
    obtain ⟨ad, e, hb, hc⟩ := h.2 hn
    exact ⟨ad, e, hb, fun j u hu => (hk _ (by rw [block_of_add]; exact hb)).trans (hc j u hu)⟩⟩
theorem Reads.more (h : Reads w B size A n xs) (hB : B ≤ B') : Reads w B' size A n xs :=
  ⟨h.1, fun hn => by
    obtain ⟨ad, e, hb, hc⟩ := h.2 hn
    exact ⟨ad, e, by omega, hc⟩⟩
theorem Reads.below (h : Reads w B size A n xs) (hb : Below B w w') : Reads w' B size A n xs := h.keep fun _ hp => hb.cell hp
/-- From world to world, the bound being the heap's size. -/
theorem Reads.next (h : Reads w w.heap.size size A n xs) (hb : Below w.heap.size w w') : Reads w' w'.heap.size size A n xs := (h.below hb).more hb.size
theorem Reads.drewN (h : Reads w B size A n xs) (k : Nat) : Reads (w.drewN k) B size A n xs := h
theorem Reads.of_own {base : Nat} {e : TypeId} {c : Nat} (h : w.ownsRow base e size (.slice A n c) n xs) : Reads w w.heap.size size A n xs := by
  refine ⟨h.1, fun hn => ?_⟩
  obtain ⟨g, cap, hv, _, hlt⟩ := h.form hn
  have hA : A = some ⟨g, 0, none⟩ := by injection hv
  subst hA
  exact ⟨_, rfl, hlt, h.cells (g := g) rfl⟩
end

/-- Bytes as cells. -/
def u8s (l : List UInt8) : List Value := l.map fun b => .int .u8 b.toNat
theorem u8s_length (l : List UInt8) : (u8s l).length = l.length := by simp [u8s]
theorem u8s_get {l : List UInt8} {k : Nat} (h : k < l.length) : (u8s l)[k]? = some (.int .u8 l[k].toNat) := by simp [u8s, h]
theorem u8s_append (l m : List UInt8) : u8s (l ++ m) = u8s l ++ u8s m := by simp [u8s]
theorem u8s_one {l : List UInt8} : ∀ u ∈ u8s l, u.oneCell' = true := by
  intro u hu
  obtain ⟨b, _, rfl⟩ := List.mem_map.1 hu
  rfl

/-- The slice value (A, l.length, whatever) reads as the bytes l. -/
def RB (w : World) (A : Option Addr) (l : List UInt8) : Prop := Reads w w.heap.size 1 A l.length (u8s l)
theorem RB.next {w w' : World} {A : Option Addr} {l : List UInt8} (h : RB w A l) (hb : Below w.heap.size w w') : RB w' A l := Reads.next h hb
theorem RB.nil {w : World} {A : Option Addr} : RB w A [] := by unfold RB; exact Reads.none_
/-- One byte, in the walk's spelling. -/
theorem RB.get {w : World} {A : Option Addr} {l : List UInt8} (h : RB w A l) {k : Nat} (hk : k < l.length) : ∃ ad, A = some ad ∧ w.cell? (ad.add k) = some (.int .u8 l[k].toNat) := by
  obtain ⟨ad, u, e, _, hx, hc⟩ := Reads.at_ h hk
  rw [u8s_get hk] at hx
  injection hx with hx
  exact ⟨ad, e, hx ▸ hc⟩

/-! ### Blocks that are known whole -/
def Blk (w : World) (g : Nat) (t : TypeId) (cs : Array Value) : Prop := w.heap[g]? = some (.cells cs t (0, 0))
section
variable {w w' : World} {g : Nat} {t : TypeId} {cs : Array Value}
theorem Blk.lt (h : Blk w g t cs) : g < w.heap.size := by
  rcases Nat.lt_or_ge g w.heap.size with hlt | hge
  · exact hlt
  · unfold Blk at h; rw [Array.getElem?_eq_none hge] at h; cases h
theorem Blk.cell (h : Blk w g t cs) : ∀ i, w.cell? ⟨g, i, none⟩ = cs[i]? := fun i => cell_of_row w g i cs t (0, 0) h
theorem Blk.frozen (h : Blk w g t cs) : ∀ i, w.frozen? ⟨g, i, none⟩ = false := fun i => by
  unfold Blk at h
  simp [World.frozen?, h]
theorem Blk.new (w : World) (t : TypeId) (cs : Array Value) : Blk (w.alloc (.cells cs t)) w.heap.size t cs := heap_alloc_new w _
theorem Blk.drewN (h : Blk w g t cs) (n : Nat) : Blk (w.drewN n) g t cs := h
theorem Blk.alloc (h : Blk w g t cs) (o : Obj) : Blk (w.alloc o) g t cs := (Below.heap_alloc w o g h.lt).trans h
theorem Blk.set_ (h : Blk w g t cs) (i : Nat) (u : Value) : Blk (w.setCell ⟨g, i, none⟩ u) g t (cs.setIfInBounds i u) := by
  unfold Blk at h ⊢
  simp [World.setCell, Array.getElem?_modify, h]
theorem Blk.far (h : Blk w g t cs) {p : Addr} (hp : g ≠ p.block) (u : Value) : Blk (w.setCell p u) g t cs := (Below.heap_setCell w p u g hp).trans h
theorem Blk.next (h : Blk w g t cs) (hb : Below w.heap.size w w') : Blk w' g t cs := (hb.block g h.lt).trans h
theorem Blk.below {B : Nat} (h : Blk w g t cs) (hb : Below B w w') (hg : g < B) : Blk w' g t cs := (hb.block g hg).trans h
theorem Blk.grown {row : Option Nat} (h : Blk w g t cs) (hb : w.grownBy w' row) (hg : some g ≠ row) : Blk w' g t cs := (hb.block g h.lt hg).trans h
end

theorem ret_bool {x y : Bool} (h : x = y) : Ending.returned (.bool x) = .returned (.bool y) := by rw [h]
theorem ret_int {k : IntKind} {x y : Int} (h : x = y) : Ending.returned (.int k x) = .returned (.int k y) := by rw [h]

/-- A block read as a list. -/
theorem Blk.reads {w : World} {g : Nat} {t : TypeId} {cs : Array Value} {size n : Nat} (h : Blk w g t cs) (hn : cs.size = n * size) : Reads w w.heap.size size (some ⟨g, 0, none⟩) n cs.toList :=
  ⟨by simpa using hn, fun _ => ⟨_, rfl, h.lt, fun j u hu => by
    have e : (⟨g, 0, none⟩ : Addr).add j = ⟨g, j, none⟩ := by unfold Addr.add; split <;> simp_all
    rw [e, h.cell]
    simpa using hu⟩⟩

theorem int_beq_true {x y : Int} (h : x = y) : (x == y) = true := by simp [h]
theorem int_bne_false {x y : Int} (h : x = y) : (x != y) = false := by simp [h]
theorem int_beq_false {x y : Int} (h : x ≠ y) : (x == y) = false := by simp [h]
theorem int_bne_true {x y : Int} (h : x ≠ y) : (x != y) = true := by simp [h]
theorem u8_beq_true {x y : UInt8} (h : x = y) : ((x.toNat : Int) == (y.toNat : Int)) = true := by simp [h]
theorem u8_bne_false {x y : UInt8} (h : x = y) : ((x.toNat : Int) != (y.toNat : Int)) = false := by simp [h]
theorem u8_beq_false {x y : UInt8} (h : x ≠ y) : ((x.toNat : Int) == (y.toNat : Int)) = false := by
  have := mt UInt8.toNat_inj.1 h
  rw [beq_eq_false_iff_ne]
  omega
theorem u8_bne_true {x y : UInt8} (h : x ≠ y) : ((x.toNat : Int) != (y.toNat : Int)) = true := by
  have := mt UInt8.toNat_inj.1 h
  rw [bne_iff_ne]
  omega
theorem list_eq_upto {α : Type} {l m : List α} (hn : l.length = m.length) (h : ∀ j, j < l.length → l[j]? = m[j]?) : l = m := by
  refine List.ext_getElem? fun j => ?_
  rcases Nat.lt_or_ge j l.length with hj | hj
  · exact h j hj
  · rw [List.getElem?_eq_none hj, List.getElem?_eq_none (by omega)]

/-! ### Worlds -/
/-- From the world before, through a world in between. -/
theorem below_then {B : Nat} {w w1 w2 : World} (h : Below B w w1) (hB : B ≤ w1.heap.size) (k : Below w1.heap.size w1 w2) : Below B w w2 :=
  h.trans ⟨k.os, k.tape, k.output, k.size, fun i hi => k.block i (Nat.lt_of_lt_of_le hi hB)⟩
theorem below_go {w w1 w2 : World} (h : Below w.heap.size w w1) (k : Below w1.heap.size w1 w2) : Below w.heap.size w w2 := below_then h h.size k
theorem below_drewN {B : Nat} {a w : World} (h : Below B a w) (n : Nat) : Below B a (w.drewN n) := ⟨h.os, h.tape, h.output, h.size, h.block⟩
theorem below_alloc {w W : World} (h : Below w.heap.size w W) (o : Obj) : Below w.heap.size w (W.alloc o) := h.alloc h.size o
theorem grown_of_below {w w1 : World} (h : Below w.heap.size w w1) : w.grownBy w1 none := ⟨h.os, h.tape, h.output, h.size, fun i hi _ => h.block i hi⟩
theorem own_next {w w' : World} {base : Nat} {e : TypeId} {size n : Nat} {v : Value} {xs : List Value} (h : w.ownsRow base e size v n xs) (hb : Below w.heap.size w w') : w'.ownsRow base e size v n xs :=
  h.kept (⟨hb.os, hb.tape, hb.output, hb.size, fun i hi _ => hb.block i hi⟩ : w.grownBy w' none) (by cases v.ownBlock <;> simp)
theorem own_base {w : World} {base : Nat} {e : TypeId} {size n : Nat} {v : Value} {xs : List Value} (h : w.ownsRow base e size v n xs) (k : Nat) (hk : v.ownBlock = some k) : base ≤ k := by
  rcases h.2 with ⟨rfl, _⟩ | ⟨g, cap, cur, rfl, hb, _⟩
  · simp [Value.ownBlock] at hk
  · have : g = k := by simpa [Value.ownBlock] using hk
    omega
theorem own_lt {w : World} {base : Nat} {e : TypeId} {size n : Nat} {v : Value} {xs : List Value} (h : w.ownsRow base e size v n xs) (k : Nat) (hk : v.ownBlock = some k) : k < w.heap.size := by
  rcases h.2 with ⟨rfl, _⟩ | ⟨g, cap, cur, rfl, hb, hh, _⟩
  · simp [Value.ownBlock] at hk
  · have : g = k := by simpa [Value.ownBlock] using hk
    subst this
    exact (Array.getElem?_eq_some_iff.1 hh).1
theorem own_mono {w : World} {base base' : Nat} {e : TypeId} {size n : Nat} {v : Value} {xs : List Value} (h : w.ownsRow base e size v n xs) (hb : base' ≤ base) : w.ownsRow base' e size v n xs := by
  refine ⟨h.1, ?_⟩
  rcases h.2 with h2 | ⟨g, cap, cur, hv, hg, r⟩
  · exact .inl h2
  · exact .inr ⟨g, cap, cur, hv, by omega, r⟩
theorem own_nil (W : World) (base : Nat) (e : TypeId) (size : Nat) : W.ownsRow base e size (.slice none 0 0) 0 [] := ⟨by simp, .inl ⟨rfl, rfl⟩⟩
/-- A store into another block leaves a row as it is. -/
theorem own_far {w : World} {base : Nat} {e : TypeId} {size n : Nat} {v : Value} {xs : List Value} (h : w.ownsRow base e size v n xs) {p : Addr} (hp : v.ownBlock ≠ some p.block) (u : Value) : (w.setCell p u).ownsRow base e size v n xs := by
  refine ⟨h.1, ?_⟩
  rcases h.2 with h2 | ⟨g, cap, cur, hv, hg, hh, r⟩
  · exact .inl h2
  · refine .inr ⟨g, cap, cur, hv, hg, (Below.heap_setCell w p u g ?_).trans hh, r⟩
    rintro rfl
    exact hp (by rw [hv]; rfl)
theorem own_blk_ne {w : World} {g : Nat} {t : TypeId} {cs : Array Value} {base : Nat} {e : TypeId} {size n : Nat} {v : Value} {xs : List Value} (h : w.ownsRow base e size v n xs) (hg : Blk w g t cs) (hne : e ≠ t) : v.ownBlock ≠ some g := by
  rcases h.2 with ⟨rfl, _⟩ | ⟨g', cap, cur, rfl, _, hh, _⟩
  · simp [Value.ownBlock]
  · intro he
    have : g' = g := by simpa [Value.ownBlock] using he
    subst this
    unfold Blk at hg
    rw [hh] at hg
    injection hg with hg
    injection hg with _ ht
    exact hne ht

/-- A store into a row of the call's own. -/
theorem own_set {w : World} {base g n c k : Nat} {e : TypeId} {xs : List Value} (h : w.ownsRow base e 1 (.slice (some ⟨g, 0, none⟩) n c) n xs) (hk : k < n) (v : Value) :
    (w.setCell ⟨g, k, none⟩ v).ownsRow base e 1 (.slice (some ⟨g, 0, none⟩) n c) n (xs.set k v) ∧ w.grownBy (w.setCell ⟨g, k, none⟩ v) (some g) := by
  refine ⟨⟨by rw [List.length_set]; exact h.1, ?_⟩, rfl, rfl, rfl, by simp [World.setCell], fun i _ hne => Below.heap_setCell _ _ _ _ (fun e => hne (by rw [e]))⟩
  rcases h.2 with ⟨h2, _⟩ | ⟨g', cap, cur, hv, hb, hh, h1, h2, h3, h4⟩
  · cases h2
  · injection hv with ha _ hc
    injection ha with ha
    injection ha with hg
    subst hg
    subst hc
    refine .inr ⟨g, c, cur.setIfInBounds k v, rfl, hb, ?_, h1, h2, by simpa using h3, ?_⟩
    · simp [World.setCell, Array.getElem?_modify, hh]
    · rw [← h4, Array.toList_setIfInBounds, List.take_set]
theorem own_cell {w : World} {base g n c k : Nat} {e : TypeId} {xs : List Value} (h : w.ownsRow base e 1 (.slice (some ⟨g, 0, none⟩) n c) n xs) : w.cell? ⟨g, k, none⟩ = xs[k]? ∨ n ≤ k := by
  rcases Nat.lt_or_ge k n with hk | hk
  · refine .inl ?_
    have hl : k < xs.length := by have := h.1; omega
    have := h.cells (g := g) rfl k _ (List.getElem?_eq_getElem hl)
    have e : (⟨g, 0, none⟩ : Addr).add k = ⟨g, k, none⟩ := by unfold Addr.add; split <;> simp_all
    rw [e] at this
    rw [this, List.getElem?_eq_getElem hl]
  · exact .inr hk
theorem own_frozen {w : World} {base g n c : Nat} {e : TypeId} {size : Nat} {xs : List Value} (h : w.ownsRow base e size (.slice (some ⟨g, 0, none⟩) n c) n xs) (i : Nat) : w.frozen? ⟨g, i, none⟩ = false := by
  rcases h.2 with ⟨h2, _⟩ | ⟨g', cap, cur, hv, hb, hh, _⟩
  · cases h2
  · injection hv with ha _ hc
    injection ha with ha
    injection ha with hg
    subst hg
    simp [World.frozen?, hh]
/-- Where a row of the call's own with an element lies. -/
theorem own_at {w : World} {base n c : Nat} {A : Option Addr} {e : TypeId} {size : Nat} {xs : List Value} (h : w.ownsRow base e size (.slice A n c) n xs) (hn : 0 < n) : ∃ g, A = some ⟨g, 0, none⟩ ∧ base ≤ g := by
  rcases h.2 with ⟨h2, h0⟩ | ⟨g', cap, cur, hv, hb, hh, _⟩
  · omega
  · injection hv with ha _ hc
    exact ⟨g', ha, hb⟩

theorem own_rb {w : World} {base : Nat} {A : Option Addr} {c : Nat} {l : List UInt8} {e : TypeId} (h : w.ownsRow base e 1 (.slice A l.length c) l.length (u8s l)) : RB w A l := Reads.of_own h
/-- A row that was there and one that is new do not meet. -/
theorem own_apart {w w' : World} {b b' : Nat} {e e' : TypeId} {s s' n n' : Nat} {v v' : Value} {xs xs' : List Value} (h : w.ownsRow b e s v n xs) (h' : w'.ownsRow b' e' s' v' n' xs') (hb : w.heap.size ≤ b') : v.ownBlock = none ∨ v.ownBlock ≠ v'.ownBlock := by
  cases hv : v.ownBlock with
  | none => exact .inl rfl
  | some k =>
    refine .inr fun e => ?_
    have h1 := own_lt h k hv
    have h2 := own_base h' k e.symm
    omega

/-! ### Steps of a walk that make or write memory -/
section
variable {P : Program} {ops : Array Oper} {rest : List Oper} {o : Oper} {a : Act} {Q : Exit → Act → World → Prop} {W : World}
/-- For the choice of an operation by the slot that it writes. -/
theorem gate_dst {N : Tmp} (_hN : o.dst = some N) (h : wpList P ops Q (o :: rest) a W) : wpList P ops Q (o :: rest) a W := h
theorem gate_store {t : TypeId} {p : Tmp} {v : Operand} (_ho : o.op = .store t (.tmp p) v) (h : wpList P ops Q (o :: rest) a W) : wpList P ops Q (o :: rest) a W := h
theorem gate_builtin {b : Builtin} {xs : Array Operand} {ts : Array TypeId} (_ho : o.op = .call { callee := .builtin b, args := xs, argTypes := ts }) (h : wpList P ops Q (o :: rest) a W) : wpList P ops Q (o :: rest) a W := h

theorem ev_run {w1 : World} {v : Value} (hgd : o.guard = none) (hrun : (execOp a.eval o).run P W = .ok (.value v) w1) (h : wpList P ops Q rest (a.put o.dst v) w1) : wpList P ops Q (o :: rest) a W :=
  wpList_plain hgd fun K hK => by
    unfold Oper.wp
    rw [hrun]
    exact hK _ _ h
theorem ev_skip {w1 : World} (hgd : o.guard = none) (hN : o.dst = none) (hrun : (execOp a.eval o).run P W = .ok .skip w1) (h : wpList P ops Q rest a w1) : wpList P ops Q (o :: rest) a W :=
  wpList_plain hgd fun K hK => by
    unfold Oper.wp
    rw [hrun]
    show K (a.put o.dst undef) w1
    rw [hN]
    exact hK _ _ h
/-- A struct is put into a new block. -/
theorem ev_box (hgd : o.guard = none) {t : TypeId} {x : Operand} (ho : o.op = .box t x) (cs : Array Value) (hx : a.eval x = .agg cs)
    (h : ∀ g w1, Blk w1 g t cs → W.heap.size ≤ g → Below W.heap.size W w1 → wpList P ops Q rest (a.put o.dst (.pointer (some ⟨g, 0, none⟩))) w1) : wpList P ops Q (o :: rest) a W := by
  refine ev_run hgd (w1 := W.alloc (.cells cs t)) (v := .pointer (some ⟨W.heap.size, 0, none⟩)) ?_ (h _ _ (Blk.new W t cs) (Nat.le_refl _) (below_alloc (Below.refl _ _) _))
  simp [execOp, ho, hx, Instr.box, newVar, newRow, Value.cells]
/-- A slice literal: a new block. -/
theorem ev_lit (hgd : o.guard = none) {N : Tmp} (_hd : o.dst = some N) (cs : Array Value) (e : TypeId) (n : Nat) (hrun : (execOp a.eval o).run P W = .ok (.value (.slice (some ⟨W.heap.size, 0, none⟩) n n)) (W.alloc (.cells cs e)))
    (h : ∀ g w1, Blk w1 g e cs → W.heap.size ≤ g → Below W.heap.size W w1 → wpList P ops Q rest (a.put o.dst (.slice (some ⟨g, 0, none⟩) n n)) w1) : wpList P ops Q (o :: rest) a W :=
  ev_run hgd hrun (h _ _ (Blk.new W e cs) (Nat.le_refl _) (below_alloc (Below.refl _ _) _))
/-- A new variable of zeros. -/
theorem ev_alloc (hgd : o.guard = none) {t : TypeId} (ho : o.op = .alloc t) (z : Value) (hz : (P.info? t).map (fun i => i.zero) = some (some z))
    (h : ∀ g w1, Blk w1 g t z.cells → W.heap.size ≤ g → Below W.heap.size W w1 → wpList P ops Q rest (a.put o.dst (.pointer (some ⟨g, 0, none⟩))) w1) : wpList P ops Q (o :: rest) a W := by
  obtain ⟨i, hi, hzz⟩ := Option.map_eq_some_iff.1 hz
  refine ev_run hgd (w1 := W.alloc (.cells z.cells t)) (v := .pointer (some ⟨W.heap.size, 0, none⟩)) ?_ (h _ _ (Blk.new W t _) (Nat.le_refl _) (below_alloc (Below.refl _ _) _))
  simp [execOp, ho, Instr.alloc, zeroValue, typeInfo, hi, hzz, newVar, newRow]
/-- A whole struct or array is stored into the block of a variable. -/
theorem ev_store_row (hgd : o.guard = none) (hN : o.dst = none) {t : TypeId} {p x : Operand} (ho : o.op = .store t p x) {g : Nat} {te : TypeId} {old cs : Array Value} (hB : Blk W g te old)
    (hp : a.eval p = .pointer (some ⟨g, 0, none⟩)) (hx : a.eval x = .agg cs) (hi : (P.info? t).map (·.size) = some cs.size) (hs : old.size = cs.size) (h1 : cs.all (·.oneCell') = true)
    (h : ∀ w1, Blk w1 g te cs → W.grownBy w1 (some g) → wpList P ops Q rest a w1) : wpList P ops Q (o :: rest) a W := by
  refine ev_skip hgd hN (w1 := W.setRow g cs) ?_ (h _ (setRow_heap W g old cs te (0, 0) hB) ?_)
  · have := run_storeVar_row (P := P) W g te t old cs hB hi hs h1
    simp [execOp, ho, hp, hx, Instr.storeAt, Instr.sureAddr, this]
  · refine ⟨rfl, rfl, rfl, by simp, fun i _ hne => setRow_other W g i cs (fun e => hne (by rw [e]))⟩
end
/-! ### A store into one cell -/
section
variable {P : Program} {ops : Array Oper} {rest : List Oper} {o : Oper} {a : Act} {Q : Exit → Act → World → Prop} {W : World}
theorem ev_store_cell (hgd : o.guard = none) (hN : o.dst = none) {t : TypeId} {p x : Operand} (ho : o.op = .store t p x) {g : Nat} {te : TypeId} {old : Array Value} (hB : Blk W g te old) {i : Nat} {v : Value}
    (hp : a.eval p = .pointer (some ⟨g, i, none⟩)) (hx : a.eval x = v) (h1 : v.oneCell' = true) (hi : (P.info? t).map (·.size) = some 1) (hlt : i < old.size)
    (h : ∀ w1, Blk w1 g te (old.setIfInBounds i v) → W.grownBy w1 (some g) → wpList P ops Q rest a w1) : wpList P ops Q (o :: rest) a W := by
  obtain ⟨j, hj, hs⟩ := Option.map_eq_some_iff.1 hi
  have hv : v.cells = #[v] := by cases v <;> first | rfl | cases h1
  refine ev_skip hgd hN (w1 := W.setCell ⟨g, i, none⟩ v) ?_ (h _ (Blk.set_ hB i v) ?_)
  · have hc : W.cell? ⟨g, i, none⟩ = some old[i] := by rw [hB.cell]; exact Array.getElem?_eq_getElem hlt
    have hst : (storeVar t ⟨g, i, none⟩ v).run P W = .ok () (W.setCell ⟨g, i, none⟩ v) := by
      have h0 : (⟨g, i, none⟩ : Addr).add 0 = ⟨g, i, none⟩ := rfl
      have hst1 : (store ⟨g, i, none⟩ v).run P W = .ok () (W.setCell ⟨g, i, none⟩ v) := by
        rw [run_store P W _ v .plain h1]
        simp [stored, hc, hB.frozen]
      simp [storeVar, sizeOf, typeInfo, hj, hs, hv, storeCells, h0, hst1]
    simp [execOp, ho, hp, hx, Instr.storeAt, Instr.sureAddr, hst]
  · exact ⟨rfl, rfl, rfl, by simp [World.setCell], fun k _ hne => Below.heap_setCell _ _ _ _ (fun e => hne (by rw [e]))⟩
end

section
variable {P : Program} {ops : Array Oper} {rest : List Oper} {o : Oper} {a : Act} {Q : Exit → Act → World → Prop} {W : World}
/-- A store into a row of the call's own. -/
theorem ev_store_own (hgd : o.guard = none) (hN : o.dst = none) {t : TypeId} {p x : Operand} (ho : o.op = .store t p x) {base g n c k : Nat} {e : TypeId} {xs : List Value} (hown : W.ownsRow base e 1 (.slice (some ⟨g, 0, none⟩) n c) n xs) (hk : k < n) {v : Value}
    (hp : a.eval p = .pointer (some ⟨g, k, none⟩)) (hx : a.eval x = v) (h1 : v.oneCell' = true) (hi : (P.info? t).map (·.size) = some 1)
    (h : ∀ w1, w1.ownsRow base e 1 (.slice (some ⟨g, 0, none⟩) n c) n (xs.set k v) → W.grownBy w1 (Value.slice (some ⟨g, 0, none⟩) n c).ownBlock → wpList P ops Q rest a w1) : wpList P ops Q (o :: rest) a W := by
  obtain ⟨j, hj, hs⟩ := Option.map_eq_some_iff.1 hi
  have hv : v.cells = #[v] := by cases v <;> first | rfl | cases h1
  obtain ⟨h2, h3⟩ := own_set hown hk v
  refine ev_skip hgd hN (w1 := W.setCell ⟨g, k, none⟩ v) ?_ (h _ h2 h3)
  have hc : ∃ u, W.cell? ⟨g, k, none⟩ = some u := by
    rcases own_cell (k := k) hown with hc | hc
    · exact ⟨_, hc.trans (List.getElem?_eq_getElem (by have := hown.1; omega))⟩
    · omega
  obtain ⟨u, hc⟩ := hc
  have hst : (storeVar t ⟨g, k, none⟩ v).run P W = .ok () (W.setCell ⟨g, k, none⟩ v) := by
    have h0 : (⟨g, k, none⟩ : Addr).add 0 = ⟨g, k, none⟩ := rfl
    have hst1 : (store ⟨g, k, none⟩ v).run P W = .ok () (W.setCell ⟨g, k, none⟩ v) := by
      rw [run_store P W _ v .plain h1]
      simp [stored, hc, own_frozen hown]
    simp [storeVar, sizeOf, typeInfo, hj, hs, hv, storeCells, h0, hst1]
  simp [execOp, ho, hp, hx, Instr.storeAt, Instr.sureAddr, hst]
end

/-! ### append onto a row of the call's own (turned from the guide's own lines) -/
section
variable {P : Program} (w : World)

theorem run_append_of_nil (base : Nat) (t ty e : TypeId) (i : TypeInfo) (size : Nat) (ht : P.underlying t = some (.slice e)) (hi : P.info? e = some i)
    (v : Value) (n : Nat) (xs : List Value) (hown : w.ownsRow base e size v n xs) (c : Nat) : (Builtin.append_ #[t, t] ty #[v, .slice none 0 c]).run P w = .ok v w := by
  rcases hown.2 with ⟨rfl, rfl⟩ | ⟨g, cap, cur, rfl, _, _, hnc, _⟩
  · simp [Builtin.append_, run_underlying ht, sizeOf, typeInfo, hi, Builtin.lenOf, Builtin.firstCells]
  · simp [Builtin.append_, run_underlying ht, sizeOf, typeInfo, hi, Builtin.lenOf, Builtin.firstCells, hnc, storeCells]

theorem run_append_any (base : Nat) (t ty e : TypeId) (i : TypeInfo) (z : Value) (size bytes : Nat) (ht : P.underlying t = some (.slice e)) (hi : P.info? e = some i) (hz : i.zero = some z)
    (hsize : i.size = size) (hby : i.bytes = bytes) (hzs : z.cells.size = size) (hsz : 0 < size)
    (v : Value) (n : Nat) (xs : List Value) (hown : w.ownsRow base e size v n xs)
    (B : Nat) (A : Option Addr) (m c : Nat) (news : List Value) (hr : Reads w B size A m news) (h1 : ∀ u ∈ news, u.oneCell' = true)
    (h63 : n + m ≤ maxLen) (hbytes : (n + m) * bytes ≤ 140737488355328) (hbase : base ≤ w.heap.size) :
    ∃ v' w', (Builtin.append_ #[t, t] ty #[v, .slice A m c]).run P w = .ok v' w' ∧ w'.ownsRow base e size v' (n + m) (xs ++ news) ∧ w.grownBy w' v.ownBlock ∧
      (v'.ownBlock = v.ownBlock ∨ v'.ownBlock = some w.heap.size) := by
  rcases A with _ | ad
  · have hm : m = 0 := by
      rcases Nat.eq_zero_or_pos m with h0 | h0
      · exact h0
      · obtain ⟨ad, h, _⟩ := hr.2 h0
        cases h
    subst hm
    have hn : news = [] := List.eq_nil_of_length_eq_zero (by simpa using hr.1)
    subst hn
    exact ⟨v, w, run_append_of_nil w base t ty e i size ht hi v n xs hown c, by simpa using hown, World.grownBy.refl w _, .inl rfl⟩
  · have hcells : ∀ j u, news[j]? = some u → w.cell? (ad.add j) = some u := by
      intro j u hu
      rcases Nat.eq_zero_or_pos m with h0 | h0
      · subst h0
        have hn : news = [] := List.eq_nil_of_length_eq_zero (by simpa using hr.1)
        subst hn
        simp at hu
      · obtain ⟨ad', h, _, hc⟩ := hr.2 h0
        injection h with h
        subst h
        exact hc j u hu
    obtain ⟨v', w', hrun, h2, h3, _, h5⟩ := run_append_own_at (P := P) w base t ty e i z size bytes ht hi hz hsize hby hzs hsz v n xs hown ad m c news hr.1 hcells h1 h63 hbytes hbase
    exact ⟨v', w', hrun, h2, h3, h5⟩

theorem wp_append_any {o : Oper} {a : Act} {K : Act → World → Prop} {Q : Exit → Act → World → Prop} (s x : Operand) (t : TypeId)
    (ho : o.op = .call { callee := .builtin .append, args := #[s, x], argTypes := #[t, t] })
    (base : Nat) (e : TypeId) (i : TypeInfo) (z : Value) (size bytes : Nat) (ht : P.underlying t = some (.slice e)) (hi : P.info? e = some i) (hz : i.zero = some z)
    (hsize : i.size = size) (hby : i.bytes = bytes) (hzs : z.cells.size = size) (hsz : 0 < size)
    (v : Value) (n : Nat) (xs : List Value) (hs : a.eval s = v) (hown : w.ownsRow base e size v n xs)
    (B : Nat) (A : Option Addr) (m c : Nat) (news : List Value) (hx : a.eval x = .slice A m c) (hr : Reads w B size A m news) (h1 : ∀ u ∈ news, u.oneCell' = true)
    (h63 : n + m ≤ maxLen) (hbytes : (n + m) * bytes ≤ 140737488355328) (hbase : base ≤ w.heap.size)
    (h : ∀ v' w', w'.ownsRow base e size v' (n + m) (xs ++ news) → w.grownBy w' v.ownBlock → (v'.ownBlock = v.ownBlock ∨ v'.ownBlock = some w.heap.size) → K (a.put o.dst v') w') : o.wp P a w K Q := by
  obtain ⟨v', w', hrun, h2, h3, h4⟩ := run_append_any (P := P) w base t o.type e i z size bytes ht hi hz hsize hby hzs hsz v n xs hown B A m c news hr h1 h63 hbytes hbase
  unfold Oper.wp execOp
  simp only [ho, resolve, invoke, builtin, Sem.run_bind, Sem.run_pure, Result.andThen_ok, List.map_toArray, List.map_cons, List.map_nil, hs, hx, hrun]
  exact h v' w' h2 h3 h4

theorem wpList_append_any {ops : Array Oper} {rest : List Oper} {o : Oper} {a : Act} {Q : Exit → Act → World → Prop} (hgd : o.guard = none) (s x : Operand) (t : TypeId)
    (ho : o.op = .call { callee := .builtin .append, args := #[s, x], argTypes := #[t, t] })
    (base : Nat) (e : TypeId) (i : TypeInfo) (z : Value) (size bytes : Nat) (ht : P.underlying t = some (.slice e)) (hi : P.info? e = some i) (hz : i.zero = some z)
    (hsize : i.size = size) (hby : i.bytes = bytes) (hzs : z.cells.size = size) (hsz : 0 < size)
    (v : Value) (n : Nat) (xs : List Value) (hs : a.eval s = v) (hown : w.ownsRow base e size v n xs)
    (B : Nat) (A : Option Addr) (m c : Nat) (news : List Value) (hx : a.eval x = .slice A m c) (hr : Reads w B size A m news) (h1 : ∀ u ∈ news, u.oneCell' = true)
    (h63 : n + m ≤ maxLen) (hbytes : (n + m) * bytes ≤ 140737488355328) (hbase : base ≤ w.heap.size)
    (h : ∀ v' w', w'.ownsRow base e size v' (n + m) (xs ++ news) → w.grownBy w' v.ownBlock → (v'.ownBlock = v.ownBlock ∨ v'.ownBlock = some w.heap.size) → wpList P ops Q rest (a.put o.dst v') w') : wpList P ops Q (o :: rest) a w :=
  wpList_plain hgd fun _ hK => wp_append_any w s x t ho base e i z size bytes ht hi hz hsize hby hzs hsz v n xs hs hown B A m c news hx hr h1 h63 hbytes hbase fun v' w' h2 h3 h4 => hK _ _ (h v' w' h2 h3 h4)

theorem step_append_any {ops : Array Oper} {o : Oper} {a : Act} {K : Act → World → Prop} {Q : Exit → Act → World → Prop} {E : Prop} (hgd : o.guard = none) (s x : Operand) (t : TypeId)
    (ho : o.op = .call { callee := .builtin .append, args := #[s, x], argTypes := #[t, t] })
    (base : Nat) (e : TypeId) (i : TypeInfo) (z : Value) (size bytes : Nat) (ht : P.underlying t = some (.slice e)) (hi : P.info? e = some i) (hz : i.zero = some z)
    (hsize : i.size = size) (hby : i.bytes = bytes) (hzs : z.cells.size = size) (hsz : 0 < size)
    (v : Value) (n : Nat) (xs : List Value) (hs : a.eval s = v) (hown : w.ownsRow base e size v n xs)
    (B : Nat) (A : Option Addr) (m c : Nat) (news : List Value) (hx : a.eval x = .slice A m c) (hr : Reads w B size A m news) (h1 : ∀ u ∈ news, u.oneCell' = true)
    (h63 : n + m ≤ maxLen) (hbytes : (n + m) * bytes ≤ 140737488355328) (hbase : base ≤ w.heap.size)
    (h : ∀ v' w', w'.ownsRow base e size v' (n + m) (xs ++ news) → w.grownBy w' v.ownBlock → (v'.ownBlock = v.ownBlock ∨ v'.ownBlock = some w.heap.size) → K (a.put o.dst v') w') :
    if Region.wanted o (yielded ops a.tmps) = true then Oper.wp P o a w K Q else E := by
  have hw : Region.wanted o (yielded ops a.tmps) = true := by simp [Region.wanted, hgd]
  rw [if_pos hw]
  exact wp_append_any w s x t ho base e i z size bytes ht hi hz hsize hby hzs hsz v n xs hs hown B A m c news hx hr h1 h63 hbytes hbase h
end

/-- The shape of whatever is owned. -/
theorem own_slice {w : World} {base n : Nat} {e : TypeId} {size : Nat} {v : Value} {xs : List Value} (h : w.ownsRow base e size v n xs) : ∃ A c, v = .slice A n c := by
  rcases h.2 with ⟨rfl, rfl⟩ | ⟨g, cap, cur, rfl, _⟩
  · exact ⟨none, 0, rfl⟩
  · exact ⟨_, cap, rfl⟩
section
variable {P : Program} {ops : Array Oper} {rest : List Oper} {o : Oper} {a : Act} {Q : Exit → Act → World → Prop}
/-- append of whatever reads onto a row of the call's own: (A0, n, c0) grows by m elements. -/
theorem ev_append {W : World} (hgd : o.guard = none) {s x : Operand} {t : TypeId} (ho : o.op = .call { callee := .builtin .append, args := #[s, x], argTypes := #[t, t] })
    {base : Nat} {e : TypeId} {z : Value} {size bytes : Nat} (ht : P.underlying t = some (.slice e)) (hinfo : (P.info? e).map (fun i => (i.zero, i.size, i.bytes)) = some (some z, size, bytes))
    (hzs : z.cells.size = size) (hsz : 0 < size) {A0 : Option Addr} {c0 n : Nat} {xs : List Value} (hs : a.eval s = .slice A0 n c0) (hown : W.ownsRow base e size (.slice A0 n c0) n xs)
    {B : Nat} {A : Option Addr} {m c : Nat} {news : List Value} (hx : a.eval x = .slice A m c) (hr : Reads W B size A m news) (h1 : ∀ u ∈ news, u.oneCell' = true)
    (hbytes : (n + m) * bytes ≤ 140737488355328) (hb0 : 0 < bytes) (hbase : base ≤ W.heap.size)
    (h : ∀ A' c' w', w'.ownsRow base e size (.slice A' (n + m) c') (n + m) (xs ++ news) → W.grownBy w' (Value.slice A0 n c0).ownBlock →
      ((Value.slice A' (n + m) c').ownBlock = (Value.slice A0 n c0).ownBlock ∨ (Value.slice A' (n + m) c').ownBlock = some W.heap.size) → wpList P ops Q rest (a.put o.dst (.slice A' (n + m) c')) w') : wpList P ops Q (o :: rest) a W := by
  obtain ⟨i0, hi, hz0, hz1, hz2⟩ := info_parts hinfo
  have hlen : n + m ≤ 140737488355328 := Nat.le_trans (Nat.le_mul_of_pos_right _ hb0) hbytes
  refine wpList_append_any W hgd s x t ho base e i0 z size bytes ht hi hz0 hz1 hz2 hzs hsz _ n xs hs hown B A m c news hx hr h1 (by simp only [maxLen]; omega) hbytes hbase ?_
  intro v' w' hown' hg hat
  obtain ⟨A', c', rfl⟩ := own_slice hown'
  exact h A' c' w' hown' hg hat
/-- append(nil, x...): a new row. -/
theorem ev_append_nil {W : World} (hgd : o.guard = none) {s x : Operand} {t : TypeId} (ho : o.op = .call { callee := .builtin .append, args := #[s, x], argTypes := #[t, t] })
    {e : TypeId} {z : Value} {size bytes : Nat} (ht : P.underlying t = some (.slice e)) (hinfo : (P.info? e).map (fun i => (i.zero, i.size, i.bytes)) = some (some z, size, bytes))
    (hzs : z.cells.size = size) (hsz : 0 < size) (hs : a.eval s = .slice none 0 0)
    {B : Nat} {A : Option Addr} {m c : Nat} {news : List Value} (hx : a.eval x = .slice A m c) (hr : Reads W B size A m news) (h1 : ∀ u ∈ news, u.oneCell' = true)
    (hbytes : m * bytes ≤ 140737488355328) (hb0 : 0 < bytes)
    (h : ∀ A' c' w', w'.ownsRow W.heap.size e size (.slice A' m c') m news → Below W.heap.size W w' → wpList P ops Q rest (a.put o.dst (.slice A' m c')) w') : wpList P ops Q (o :: rest) a W := by
  refine ev_append (base := W.heap.size) hgd ho ht hinfo hzs hsz hs (own_nil _ _ _ _) hx hr h1 (by simpa using hbytes) hb0 (Nat.le_refl _) ?_
  intro A' c' w' hown hg _
  rw [Nat.zero_add] at hown ⊢
  exact h A' c' w' (by simpa using hown) ((Below.refl _ _).grown hg (Nat.le_refl _) (by simp [Value.ownBlock]))
end

/-! ### A region that draws its order and whose operations read, or call what changes nothing that was there -/
/-- The worlds in which all that was there is as it was. -/
def Later (w : World) := { w' : World // Below w.heap.size w w' }
instance (w : World) : Nonempty (Later w) := ⟨⟨w, Below.refl _ _⟩⟩
theorem Later.of {w w' : World} (h : Below w.heap.size w w') : ∃ u : Later w, w' = u.1 := ⟨⟨w', h⟩, rfl⟩
theorem wp_region_later {P : Program} {id : Nat} {Q : Exit → Act → World → Prop} {a : Act} {w : World} {l : List Oper} (hm : P.follows .mixedOrders = true) (hB : Region.lexB .any l.toArray = true)
    (h : wpQuiet P l.toArray (fun w' => ∃ u : Later w, w' = u.1) (fun a' => ∀ w', (∃ u : Later w, w' = u.1) → Q .normal a' w') l a) : (Code.region id l.toArray true).wp P Q a w :=
  wp_region_quiet (C := fun w' => ∃ u : Later w, w' = u.1) hm hB (Later.of (Below.refl w.heap.size w).drew) (by simpa using h)
theorem later_end {P : Program} {ops : Array Oper} {C : World → Prop} {w : World} {Q : Exit → Act → World → Prop} {a : Act} (h : ∀ w', Below w.heap.size w w' → Q .normal a w') : wpQuiet P ops C (fun a' => ∀ w', (∃ u : Later w, w' = u.1) → Q .normal a' w') [] a :=
  wpQuiet_nil (by rintro _ ⟨u, rfl⟩; exact h u.1 u.2)
theorem wpList_drew {P : Program} {ops : Array Oper} {Q : Exit → Act → World → Prop} {l : List Oper} {a : Act} {W : World} (h : ∀ W', Below W.heap.size W W' → wpList P ops Q l a W') : wpList P ops Q l a { W with drawn := W.drawn + 1 } := h _ (Below.refl _ _).drew
theorem calls_later {P : Program} {f : FuncId} {args : Array Value} {w : World} {u : Later w} {v : Value} (h : Calls P f args u.1 fun e w' => e = .returned v ∧ Below u.1.heap.size u.1 w') : Calls P f args u.1 fun e w' => e = .returned v ∧ ∃ u' : Later w, w' = u'.1 :=
  h.mono fun _ _ ⟨he, hb⟩ => ⟨he, Later.of (below_go u.2 hb)⟩
theorem Blk.later {w : World} {g : Nat} {t : TypeId} {cs : Array Value} (h : Blk w g t cs) : ∀ (u : Later w) (i : Nat), u.1.cell? ⟨g, i, none⟩ = cs[i]? := fun u => (h.next u.2).cell
theorem RB.later {w : World} {A : Option Addr} {l : List UInt8} (h : RB w A l) (u : Later w) : RB u.1 A l := h.next u.2
/-- Twelve cells that are a record's. -/
theorem Rec.fold (r : Rec) (A : Option Addr) (c : Nat) : #[Value.int .i64 r.V, .int .i64 r.Kind, .int .i64 r.Saga, .int .i64 r.Step, .int .i64 r.Try, .int .i64 r.At, .int .i64 r.Last, .int .i64 r.Code, .int .i64 r.Count, .int .i64 r.Pivot, .string r.Name, .slice A r.Data.length c] = r.cells A c := rfl

/-! ### This program's types -/
theorem info_u8 : (Tryd.prog.info? 5).map (fun i => (i.zero, i.size, i.bytes)) = some (some (.int .u8 0), 1, 1) := by kernel_rfl
theorem info_rec : (Tryd.prog.info? 27).map (fun i => (i.zero, i.size, i.bytes)) = some (some (.agg (Rec.zero.cells none 0)), 12, 120) := by kernel_rfl
theorem info_bytes : (Tryd.prog.info? 25).map (fun i => (i.zero, i.size, i.bytes)) = some (some (.slice none 0 0), 1, 24) := by kernel_rfl
theorem info_int : (Tryd.prog.info? 3).map (fun i => (i.zero, i.size, i.bytes)) = some (some (.int .i64 0), 1, 8) := by kernel_rfl
theorem info_str : (Tryd.prog.info? 9).map (fun i => (i.zero, i.size, i.bytes)) = some (some (.string ⟨#[]⟩), 1, 16) := by kernel_rfl
theorem rec_zero : (Tryd.prog.info? 27).map (fun i => i.zero) = some (some (.agg (Rec.zero.cells none 0))) := by kernel_rfl
theorem rec_size : (Tryd.prog.info? 27).map (·.size) = some 12 := by kernel_rfl
theorem cells_one (r : Rec) (A : Option Addr) (c : Nat) : (r.cells A c).all (·.oneCell') = true := by simp [Rec.cells, Value.oneCell']
theorem arr_zero : (Tryd.prog.info? 119).map (fun i => i.zero) = some (some (.agg #[.int .i64 0, .int .i64 0, .int .i64 0, .int .i64 0, .int .i64 0, .int .i64 0, .int .i64 0, .int .i64 0, .int .i64 0, .int .i64 0])) := by kernel_rfl
theorem arr_size : (Tryd.prog.info? 119).map (·.size) = some 10 := by kernel_rfl

end Go.Proofs.YtikodgaomhmbmaaDoor
