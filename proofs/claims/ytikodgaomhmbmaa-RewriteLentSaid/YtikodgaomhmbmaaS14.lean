/-
  What RewriteLent keeps: what was answered, copies of what should have been, and the lent list; how its turns read.
-/
import Derived.Test.YtikodgaomhmbmaaS13
import Derived.Test.YtikodgaomhmbmaaSB
set_option linter.unusedVariables false
set_option linter.unusedSimpArgs false
namespace Go.Proofs.Ytikodgaomhmbmaa
open Go.ChangeShapes Go.WideShapes Go.ChangeAt Go.RowKit Go.Deep
attribute [local go_sem] Trn.size_ Trn.g0 Trn.g1 Trn.g2

/-! ### A list of changes -/
def trnCells (l : List Trn) : List Value := l.flatMap fun t => t.cells.toList
theorem trnCells_length (l : List Trn) : (trnCells l).length = l.length * 3 := by
  unfold trnCells
  induction l with
  | nil => rfl
  | cons x l ih => simp only [List.flatMap_cons, List.length_append, ih, List.length_cons]; simp [Trn.cells]; omega
theorem trnCells_get : ∀ {l : List Trn} {k : Nat} {t : Trn}, l[k]? = some t → ∀ i, i < 3 → (trnCells l)[k * 3 + i]? = t.cells[i]?
  | [], k, t, h => by simp at h
  | x :: l, 0, t, h => by
    simp at h
    subst h
    intro i hi
    simp only [trnCells, List.flatMap_cons, Nat.zero_mul, Nat.zero_add]
    rw [List.getElem?_append_left (by simpa [Trn.cells] using hi), Array.getElem?_toList]
  | x :: l, k + 1, t, h => by
    intro i hi
    have ih := trnCells_get (l := l) (k := k) (t := t) (by simpa using h) i hi
    simp only [trnCells, List.flatMap_cons] at ih ⊢
    rw [List.getElem?_append_right (by simp [Trn.cells]; omega)]
    rw [← ih]
    congr 1
    simp [Trn.cells]
    omega
/-- The slice value (A, l.length, whatever) reads as the changes l. -/
def RTn (w : World) (A : Option Addr) (l : List Trn) : Prop := Reads w w.heap.size 3 A l.length (trnCells l)
theorem RTn.next {w w' : World} {A : Option Addr} {l : List Trn} (h : RTn w A l) (hb : Below w.heap.size w w') : RTn w' A l := Reads.next h hb
theorem RTn.load {w : World} {A : Option Addr} {l : List Trn} (h : RTn w A l) {k : Nat} {t : Trn} (ht : l[k]? = some t) {ad : Addr} (he : A = some ad) : ∀ j v, t.cells[j]? = some v → w.cell? ((ad.add (k * 3)).add j) = some v := by
  have hk : k < l.length := (List.getElem?_eq_some_iff.1 ht).1
  obtain ⟨ad', e, _, hc⟩ := h.2 (by omega)
  rw [he] at e
  injection e with e
  subst e
  intro j v hv
  rw [add_of_add]
  have hj : j < 3 := by have := (Array.getElem?_eq_some_iff.1 hv).1; simpa [Trn.cells] using this
  exact hc _ _ (by rw [trnCells_get ht j hj, hv])
section
variable {H : Type} {enc : TypeId × Value → H} {w : World} {base : Nat} {spare : Nat → Bool} {held : Bool}
theorem list3 {α : Type} {l : List α} (h : l.length = 3) : ∃ a b c, l = [a, b, c] := by
  match l, h with
  | [a, b, c], _ => exact ⟨a, b, c, rfl⟩
theorem cells_trn : Try.prog.cellsOf 45 = 3 := by kernel_rfl
theorem trod_trn {fuel : Nat} {cs : List Value} {x : DataW H × List MemPlace} (h : DataW.trod enc Try.prog w base spare held fuel 45 cs = some x) : ∃ t : Trn, cs = t.cells.toList ∧ (Lit.int .i64 t.by_).wf = true := by
  obtain ⟨xs, n, _, hx, hcl, hlen, hg⟩ := DataW.trod_struct Try.underlying45 h
  rw [cells_trn] at hcl
  obtain ⟨c0, c1, c2, rfl⟩ := list3 hcl
  obtain ⟨y0, y1, y2, rfl⟩ := list3 (l := xs) hlen
  have ci : Try.prog.cellsOf 3 = 1 := by kernel_rfl
  obtain ⟨a, e0, z0, f0⟩ := DataW.trod_int Try.underlying3 (by simpa [ci] using hg 0 _ rfl)
  obtain ⟨b, e1, z1, f1⟩ := DataW.trod_int Try.underlying3 (by simpa [ci] using hg 1 _ rfl)
  obtain ⟨c, e2, z2, f2⟩ := DataW.trod_int Try.underlying3 (by simpa [ci] using hg 2 _ rfl)
  simp only [List.cons.injEq, and_true] at e0 e1 e2
  subst e0 e1 e2
  exact ⟨⟨a, b, c⟩, rfl, f2⟩
/-- A list of changes. -/
theorem trod_trns {fuel : Nat} {cs : List Value} {x : DataW H × List MemPlace} (h : DataW.trod enc Try.prog w base spare held fuel 41 cs = some x) :
    ∃ (A : Option Addr) (l : List Trn) (c : Nat), cs = [.slice A l.length c] ∧ RTn w A l ∧ l.length ≤ c ∧ ∀ t ∈ l, (Lit.int .i64 t.by_).wf = true := by
  rcases open_slice Try.underlying41 h with ⟨rfl, rfl⟩ | ⟨a, len, cap, m, n, D, Pl, rfl, hb, hl, hm, hmm, rfl, hx⟩
  · exact ⟨none, [], 0, rfl, Reads.none_, by simp, fun t ht => by cases ht⟩
  · have hlm : len ≤ m := by rw [hmm]; split <;> omega
    have hall : ∀ i, i < len → ∃ y : Trn, w.cells? base (a.add (i * 3)) 3 = some y.cells.toList ∧ (Lit.int .i64 y.by_).wf = true := by
      intro i hi
      obtain ⟨cs', h1, h2⟩ := hx i (by omega)
      rw [cells_trn] at h1
      obtain ⟨t, rfl, h3⟩ := trod_trn h2
      exact ⟨t, h1, h3⟩
    haveI : Inhabited Trn := ⟨⟨0, 0, 0⟩⟩
    obtain ⟨f, hf⟩ := choose_lt hall
    refine ⟨some a, (List.range len).map f, cap, by simp, ⟨by rw [trnCells_length], fun hn => ⟨a, rfl, ?_, ?_⟩⟩, by simpa using hl, ?_⟩
    · simp at hn
      obtain ⟨h1, _⟩ := hf 0 hn
      obtain ⟨_, _, h3⟩ := World.cells?_some h1
      have := World.block_lt_of_cell? w _ ((h3 0 (by omega)).trans (by simp [Trn.cells]; rfl))
      rw [block_of_add, block_of_add] at this
      exact this
    · intro j u hu
      have hj : j < len * 3 := by
        have := (List.getElem?_eq_some_iff.1 hu).1
        rw [trnCells_length] at this
        simpa using this
      have hk : j / 3 < len := by omega
      have hg : ((List.range len).map f)[j / 3]? = some (f (j / 3)) := by rw [List.getElem?_map, List.getElem?_range hk]; rfl
      have hr := trnCells_get hg (j % 3) (by omega)
      rw [show j / 3 * 3 + j % 3 = j by omega, hu] at hr
      obtain ⟨h1, _⟩ := hf _ hk
      obtain ⟨_, _, h3⟩ := World.cells?_some h1
      have := h3 (j % 3) (by omega)
      rw [add_of_add, show j / 3 * 3 + j % 3 = j by omega, show ∀ i, (f (j / 3)).cells.toList[i]? = (f (j / 3)).cells[i]? by intro i; simp, ← hr] at this
      exact this
    · intro t ht
      obtain ⟨i, hi, rfl⟩ := List.mem_map.1 ht
      exact (hf i (by simpa using hi)).2
end

theorem trn_size : (Try.prog.info? 45).map (·.size) = some 3 := by kernel_rfl
theorem apart_of_own {A B : Option Addr} {n m c d : Nat} (h : (Value.slice A n c).ownBlock = none ∨ (Value.slice A n c).ownBlock ≠ (Value.slice B m d).ownBlock) : Apart A B := by
  intro a b ha hb e
  subst ha
  subst hb
  rcases h with h | h
  · cases h
  · exact h (by simp [Value.ownBlock, e])
theorem RR.take {w : World} {A : Option Addr} {l : List RA} (h : RR w A l) (n : Nat) : RR w A (l.take n) := by
  have := List.take_append_drop n l
  rw [← this] at h
  exact h.prefix

/-! ### Lists of lists of records -/
abbrev LR := List RA × Option Addr × Nat
def gl (L : List LR) : List GA := L.map fun z => (recCells z.1, z.1.length, z.2.1, z.2.2)
def sd (L : List LR) : List BA := L.flatMap fun z => bs z.1
theorem gl_append (L M : List LR) : gl (L ++ M) = gl L ++ gl M := by simp [gl]
theorem sd_append (L M : List LR) : sd (L ++ M) = sd L ++ sd M := by simp [sd]
theorem gl_get {L : List LR} {k : Nat} {z : LR} (h : L[k]? = some z) : (gl L)[k]? = some (recCells z.1, z.1.length, z.2.1, z.2.2) := by simp [gl, h]
/-- Lists of records of one's own, their data too, all apart. -/
structure LS (w : World) (base : Nat) (L : List LR) : Prop where
  rows : OGs 25 12 w base (gl L)
  data : OBs w base (sd L)
theorem LS.nil {w : World} {base : Nat} : LS w base [] := ⟨OGs.nil, OBs.nil⟩
theorem LS.snoc {w : World} {base : Nat} {L : List LR} {os : List RA} {A : Option Addr} {k c : Nat} (h : LS w base L) (hk : os.length = k) (ho : w.ownsRow base 25 12 (.slice A k c) k (recCells os)) (hQ : OBs w base (bs os)) (d : ∀ x ∈ gl L, Apart x.2.2.1 A) (dq : AllApart (sd L) (bs os)) : LS w base (L ++ [(os, A, c)]) := by
  subst hk
  refine ⟨?_, ?_⟩
  · rw [gl_append]
    exact h.rows.snoc (y := (recCells os, os.length, A, c)) ho d
  · rw [sd_append, show sd [(os, A, c)] = bs os by simp [sd]]
    exact h.data.append hQ dq
theorem LS.snoc2 {w : World} {base : Nat} {L : List LR} {os os' : List RA} {A A' : Option Addr} {k k' c c' : Nat} (h : LS w base L) (hk : os.length = k) (ho : w.ownsRow base 25 12 (.slice A k c) k (recCells os)) (hQ : OBs w base (bs os)) (d : ∀ x ∈ gl L, Apart x.2.2.1 A) (dq : AllApart (sd L) (bs os))
    (hk' : os'.length = k') (ho' : w.ownsRow base 25 12 (.slice A' k' c') k' (recCells os')) (hQ' : OBs w base (bs os')) (d' : ∀ x ∈ gl L, Apart x.2.2.1 A') (dq' : AllApart (sd L) (bs os')) (dd : Apart A A') (ddq : AllApart (bs os) (bs os')) : LS w base (L ++ [(os, A, c), (os', A', c')]) := by
  have h1 := (h.snoc hk ho hQ d dq).snoc hk' ho' hQ' (fun x hx => by
    rw [gl_append] at hx
    rcases List.mem_append.1 hx with hx | hx
    · exact d' x hx
    · simp only [gl, List.map_cons, List.map_nil, List.mem_cons, List.not_mem_nil, or_false] at hx
      subst hx
      exact dd) (fun x hx => by
    rw [sd_append] at hx
    rcases List.mem_append.1 hx with hx | hx
    · exact dq' x hx
    · rw [show sd [(os, A, c)] = bs os by simp [sd]] at hx
      exact ddq x hx)
  rwa [List.append_assoc] at h1
theorem LS.rr {w : World} {base : Nat} {L : List LR} (h : LS w base L) {k : Nat} {z : LR} (hz : L[k]? = some z) : RR w z.2.1 z.1 := by
  have h1 := h.rows.all _ (List.mem_of_getElem? (gl_get hz))
  unfold GA.val at h1
  refine ⟨Reads.of_own h1, fun x hx => ?_⟩
  exact (h.data.all (x.1.Data, x.2.1, x.2.2) (List.mem_flatMap.2 ⟨z, List.mem_of_getElem? hz, List.mem_map.2 ⟨x, hx, rfl⟩⟩)).rb
theorem OGs.kx {Pr : Nat → Prop} {w w' : World} {e : TypeId} {size base : Nat} {os : List GA} (h : OGs e size w base os) (hk : KX Pr w w') (hp : ∀ x ∈ os, ∀ ad, x.2.2.1 = some ad → Pr ad.block) : OGs e size w' base os :=
  ⟨fun x hx => hk.row (h.all x hx) fun k hk' => by
    obtain ⟨ad, hA, e2⟩ := own_block_some hk'
    rw [← e2]
    exact hp x hx ad hA, h.apart⟩
/-- What holds ahead of a turn. -/
structure Ln (w wr : World) (n : Nat) (A9 : Option Addr) (c9 : Nat) (os : List RA) (i : Nat) (a10 a11 : Option Addr × Nat) (L M : List LR) : Prop where
  below : Below w.heap.size w wr
  mine : Mn wr w.heap.size n A9 c9 os
  o10 : wr.ownsRow w.heap.size 22 1 (.slice a10.1 (2 * i) a10.2) (2 * i) (gaCells (gl L))
  o11 : wr.ownsRow w.heap.size 22 1 (.slice a11.1 (2 * i) a11.2) (2 * i) (gaCells (gl M))
  d1011 : (Value.slice a10.1 (2 * i) a10.2).ownBlock = none ∨ (Value.slice a10.1 (2 * i) a10.2).ownBlock ≠ (Value.slice a11.1 (2 * i) a11.2).ownBlock
  said : LS wr w.heap.size L
  want : LS wr w.heap.size M
  e10 : ∀ x ∈ gl L, Apart x.2.2.1 A9
  e11 : ∀ x ∈ gl M, Apart x.2.2.1 A9
  f10 : AllApart (sd L) (longs os)
  f11 : AllApart (sd M) (longs os)
  same : L.map (fun z => z.1.map (fun x => x.1)) = M.map (fun z => z.1.map (fun x => x.1))
  len : L.length = 2 * i
  small : ∀ z ∈ L, z.1.length ≤ 100 ∧ ∀ y ∈ z.1, y.1.Fits ∧ y.1.Data.length ≤ 2000
section
variable {w wr W : World} {n : Nat} {A9 : Option Addr} {c9 : Nat} {os os' : List RA} {i : Nat} {a10 a11 : Option Addr × Nat} {L M : List LR}
theorem Ln.next (h : Ln w wr n A9 c9 os i a10 a11 L M) (hb : Below wr.heap.size wr W) : Ln w W n A9 c9 os i a10 a11 L M :=
  ⟨below_go h.below hb, h.mine.next hb, own_next h.o10 hb, own_next h.o11 hb, h.d1011, ⟨h.said.rows.next hb, h.said.data.next hb⟩, ⟨h.want.rows.next hb, h.want.data.next hb⟩, h.e10, h.e11, h.f10, h.f11, h.same, h.len, h.small⟩
theorem Ln.lenM (h : Ln w wr n A9 c9 os i a10 a11 L M) : M.length = 2 * i := by
  have := congrArg List.length h.same
  rw [List.length_map, List.length_map, h.len] at this
  exact this.symm
theorem allApart_addr {Q : List BA} {p q : List BA} (h : AllApart Q p) (e : q.map (·.2) = p.map (·.2)) : AllApart Q q := fun x hx y hy => by
  have : y.2 ∈ p.map (·.2) := by rw [← e]; exact List.mem_map.2 ⟨y, hy, rfl⟩
  obtain ⟨z, hz, e2⟩ := List.mem_map.1 this
  rw [← e2]
  exact h x hx z hz
/-- The lent list is changed. -/
theorem Ln.turned (h : Ln w wr n A9 c9 os i a10 a11 L M) (hM : Mn W w.heap.size n A9 c9 os') (he : (longs os').map (·.2) = (longs os).map (·.2)) (hL : Lends A9 n c9 os wr W) : Ln w W n A9 c9 os' i a10 a11 L M := by
  have hb := h.below.size
  have hlow : ∀ (Pr : Nat → Prop), (∀ k, Pr k → k < wr.heap.size) → (∀ k, (Value.slice A9 (n + 2) c9).ownBlock = some k → ¬ Pr k) → (∀ x ∈ longs os, ∀ ad, x.2.1 = some ad → ¬ Pr ad.block) → KX Pr wr W := hL
  have K := hlow (fun k => k < wr.heap.size ∧ (Value.slice A9 (n + 2) c9).ownBlock ≠ some k ∧ ∀ x ∈ longs os, ∀ ad, x.2.1 = some ad → ad.block ≠ k) (fun k hk => hk.1) (fun k hk hp => hp.2.1 hk) (fun x hx ad e hp => hp.2.2 x hx ad e rfl)
  have hrow : ∀ {e : TypeId} {v : Value} {m : Nat} {cs : List Value}, wr.ownsRow w.heap.size e 1 v m cs → 25 ≠ e → 5 ≠ e → ∀ k, v.ownBlock = some k → k < wr.heap.size ∧ (Value.slice A9 (n + 2) c9).ownBlock ≠ some k ∧ ∀ x ∈ longs os, ∀ ad, x.2.1 = some ad → ad.block ≠ k := fun ho h1 h2 k hk =>
    ⟨own_lt ho k hk, fun e => by
      rcases own_ty_ne h.mine.row ho h1 with d | d
      · rw [e] at d; cases d
      · exact d (by rw [e, hk]), fun x hx ad e e2 => h.mine.dat.ne_own ho h2 x hx ad e (by rw [hk, e2])⟩
  have hgl : ∀ {L : List LR}, LS wr w.heap.size L → (∀ x ∈ gl L, Apart x.2.2.1 A9) → ∀ x ∈ gl L, ∀ ad, x.2.2.1 = some ad → ad.block < wr.heap.size ∧ (Value.slice A9 (n + 2) c9).ownBlock ≠ some ad.block ∧ ∀ y ∈ longs os, ∀ ad', y.2.1 = some ad' → ad'.block ≠ ad.block := fun hS hA x hx ad e => by
    have h1 := hS.rows.all x hx
    refine ⟨(hS.rows.lt x hx ad e).2, fun e2 => ?_, fun y hy ad' e2 e3 => ?_⟩
    · obtain ⟨b, hb, e3⟩ := own_block_some e2
      exact hA x hx ad b e hb e3.symm
    · unfold GA.val at h1
      exact h.mine.dat.ne_own h1 (by decide) y hy ad' e2 (by rw [e, e3]; rfl)
  have hsd : ∀ {Q : List BA}, OBs wr w.heap.size Q → AllApart Q (longs os) → ∀ x ∈ Q, ∀ ad, x.2.1 = some ad → ad.block < wr.heap.size ∧ (Value.slice A9 (n + 2) c9).ownBlock ≠ some ad.block ∧ ∀ y ∈ longs os, ∀ ad', y.2.1 = some ad' → ad'.block ≠ ad.block := fun hQ hA x hx ad e =>
    ⟨(hQ.lt x hx ad e).2, fun e2 => hQ.ne_own h.mine.row (by decide) x hx ad e e2.symm, fun y hy ad' e2 e3 => hA x hx y hy ad ad' e e2 e3.symm⟩
  have hB : Below w.heap.size w W := h.below.trans ((hlow (fun k => k < w.heap.size) (fun k hk => by omega) (fun k hk hp => by have := own_base h.mine.row k hk; omega) (fun x hx ad e hp => by have := (h.mine.dat.lt x hx ad e).1; omega)).below (fun k hk => hk))
  exact ⟨hB, hM, K.row h.o10 (hrow h.o10 (by decide) (by decide)), K.row h.o11 (hrow h.o11 (by decide) (by decide)), h.d1011, ⟨h.said.rows.kx K (hgl h.said h.e10), K.obs h.said.data (hsd h.said.data h.f10)⟩, ⟨h.want.rows.kx K (hgl h.want h.e11), K.obs h.want.data (hsd h.want.data h.f11)⟩, h.e10, h.e11, allApart_addr h.f10 he, allApart_addr h.f11 he, h.same, h.len, h.small⟩
theorem Ln.kept {row : Option Nat} (h : Ln w wr n A9 c9 os i a10 a11 L M) (hgr : wr.grownBy W row) (hne : row = none) : Ln w W n A9 c9 os i a10 a11 L M :=
  h.next ⟨hgr.os, hgr.tape, hgr.output, hgr.size, fun i hi => hgr.block i hi (by rw [hne]; simp)⟩
/-- What a turn answers is kept. -/
theorem Ln.turn (h : Ln w wr n A9 c9 os i a10 a11 L M) {b10 b11 : Option Addr × Nat} {z1 z2 u1 u2 : LR} (HB : Below w.heap.size w W) (hM : Mn W w.heap.size n A9 c9 os)
    (o10 : W.ownsRow w.heap.size 22 1 (.slice b10.1 (2 * i + 2) b10.2) (2 * i + 2) (gaCells (gl L) ++ gaCells (gl [z1, z2]))) (o11 : W.ownsRow w.heap.size 22 1 (.slice b11.1 (2 * i + 2) b11.2) (2 * i + 2) (gaCells (gl M) ++ gaCells (gl [u1, u2])))
    (d : (Value.slice b10.1 (2 * i + 2) b10.2).ownBlock = none ∨ (Value.slice b10.1 (2 * i + 2) b10.2).ownBlock ≠ (Value.slice b11.1 (2 * i + 2) b11.2).ownBlock) (s10 : LS W w.heap.size (L ++ [z1, z2])) (s11 : LS W w.heap.size (M ++ [u1, u2]))
    (e1 : Apart z1.2.1 A9) (e2 : Apart z2.2.1 A9) (e3 : Apart u1.2.1 A9) (e4 : Apart u2.2.1 A9) (f1 : AllApart (bs z1.1) (longs os)) (f2 : AllApart (bs z2.1) (longs os)) (f3 : AllApart (bs u1.1) (longs os)) (f4 : AllApart (bs u2.1) (longs os))
    (h1 : z1.1.map (fun x => x.1) = u1.1.map (fun x => x.1)) (h2 : z2.1.map (fun x => x.1) = u2.1.map (fun x => x.1)) (k1 : z1.1.length ≤ 100 ∧ ∀ y ∈ z1.1, y.1.Fits ∧ y.1.Data.length ≤ 2000) (k2 : z2.1.length ≤ 100 ∧ ∀ y ∈ z2.1, y.1.Fits ∧ y.1.Data.length ≤ 2000) :
    Ln w W n A9 c9 os (i + 1) b10 b11 (L ++ [z1, z2]) (M ++ [u1, u2]) := by
  have hgp : ∀ {L : List LR} {z1 z2 : LR}, (∀ x ∈ gl L, Apart x.2.2.1 A9) → Apart z1.2.1 A9 → Apart z2.2.1 A9 → ∀ x ∈ gl (L ++ [z1, z2]), Apart x.2.2.1 A9 := fun {L z1 z2} ha h1 h2 x hx => by
    rw [gl_append] at hx
    rcases List.mem_append.1 hx with hx | hx
    · exact ha x hx
    · simp only [gl, List.map_cons, List.map_nil, List.mem_cons, List.not_mem_nil, or_false] at hx
      rcases hx with rfl | rfl
      · exact h1
      · exact h2
  have hsp : ∀ {L : List LR} {z1 z2 : LR}, AllApart (sd L) (longs os) → AllApart (bs z1.1) (longs os) → AllApart (bs z2.1) (longs os) → AllApart (sd (L ++ [z1, z2])) (longs os) := fun {L z1 z2} ha h1 h2 x hx => by
    rw [sd_append] at hx
    rcases List.mem_append.1 hx with hx | hx
    · exact ha x hx
    · simp only [sd, List.flatMap_cons, List.flatMap_nil, List.append_nil, List.mem_append] at hx
      rcases hx with hx | hx
      · exact h1 x hx
      · exact h2 x hx
  refine ⟨HB, hM, by rw [gl_append, gaCells_append]; exact o10, by rw [gl_append, gaCells_append]; exact o11, d, s10, s11, hgp h.e10 e1 e2, hgp h.e11 e3 e4, hsp h.f10 f1 f2, hsp h.f11 f3 f4, by rw [List.map_append, List.map_append, h.same]; simp only [List.map_cons, List.map_nil, h1, h2], by rw [List.length_append, h.len]; rfl, fun z hz => ?_⟩
  rcases List.mem_append.1 hz with hz | hz
  · exact h.small z hz
  · simp only [List.mem_cons, List.not_mem_nil, or_false] at hz
    rcases hz with rfl | rfl
    · exact k1
    · exact k2
end
theorem Ln.start {w W : World} {n : Nat} {A9 : Option Addr} {c9 : Nat} {os : List RA} (HB : Below w.heap.size w W) (hM : Mn W w.heap.size n A9 c9 os) : Ln w W n A9 c9 os 0 (none, 0) (none, 0) [] [] :=
  ⟨HB, hM, own_nil _ _ _ _, own_nil _ _ _ _, .inl rfl, LS.nil, LS.nil, (fun x hx => by simp [gl] at hx), (fun x hx => by simp [gl] at hx), (fun x hx => by simp [sd] at hx), (fun x hx => by simp [sd] at hx), rfl, rfl, (fun x hx => by simp at hx)⟩
theorem map_all {p : Rec → Prop} {os os1 : List RA} (h : os.map (fun x => x.1) = os1.map (fun x => x.1)) (hp : ∀ y ∈ os1, p y.1) : ∀ y ∈ os, p y.1 := fun y hy => by
  obtain ⟨z, hz, e⟩ := List.mem_map.1 (show y.1 ∈ os1.map (fun x => x.1) by rw [← h]; exact List.mem_map.2 ⟨y, hy, rfl⟩)
  rw [← e]
  exact hp z hz
/-! ### What is still to be written full -/
def PrL (B : Nat) (v : Value) (L : List LR) (j k : Nat) : Prop := (k < B ∨ v.ownBlock = some k) ∨ ∃ q z, j ≤ q ∧ L[q]? = some z ∧ LB z.2.1 z.1 k
theorem PrL.step {B : Nat} {v : Value} {L : List LR} {j k : Nat} (h : PrL B v L (j + 1) k) : PrL B v L j k := by
  rcases h with h | ⟨q, z, hq, h⟩
  · exact .inl h
  · exact .inr ⟨q, z, by omega, h⟩
section
variable {w W : World} {base : Nat} {L : List LR}
theorem LS.row (h : LS w base L) {k : Nat} {z : LR} (hz : L[k]? = some z) : w.ownsRow base 25 12 (.slice z.2.1 z.1.length z.2.2) z.1.length (recCells z.1) := h.rows.all _ (List.mem_of_getElem? (gl_get hz))
theorem LS.dat (h : LS w base L) {k : Nat} {z : LR} (hz : L[k]? = some z) : OBs w base (bs z.1) := by
  refine ⟨fun x hx => h.data.all x (List.mem_flatMap.2 ⟨z, List.mem_of_getElem? hz, hx⟩), ?_⟩
  have := h.data.apart
  unfold sd at this
  rw [List.pairwise_flatMap] at this
  exact this.1 z (List.mem_of_getElem? hz)
theorem LS.lb (h : LS w base L) {k : Nat} {z : LR} (hz : L[k]? = some z) : ∀ j, LB z.2.1 z.1 j → base ≤ j ∧ j < w.heap.size := fun j hj => ⟨LB_ge (h.row hz) (h.dat hz) j hj, LB_lt (h.row hz) (h.dat hz) j hj⟩
theorem LS.lb_ne (h : LS w base L) {k q : Nat} {z u : LR} (hz : L[k]? = some z) (hu : L[q]? = some u) (hne : k ≠ q) : ∀ j, LB z.2.1 z.1 j → ¬ LB u.2.1 u.1 j := by
  have hp := h.data.apart
  unfold sd at hp
  rw [List.pairwise_flatMap] at hp
  have hd : AllApart (bs z.1) (bs u.1) := by
    obtain ⟨h1, rfl⟩ := List.getElem?_eq_some_iff.1 hz
    obtain ⟨h2, rfl⟩ := List.getElem?_eq_some_iff.1 hu
    rcases Nat.lt_or_gt_of_ne hne with hl | hl
    · exact List.pairwise_iff_getElem.1 hp.2 k q h1 h2 hl
    · intro x hx y hy
      exact (List.pairwise_iff_getElem.1 hp.2 q k h2 h1 hl y hy x hx).symm
  refine notLB_LB (h.row hz) (h.dat hz) (h.row hu) (h.dat hu) ?_ hd
  have ha := h.rows.others (gl_get hu) (gl_get hz) hne
  simp only at ha
  cases hA : z.2.1 with
  | none => exact .inl rfl
  | some a =>
    refine .inr fun e => ?_
    obtain ⟨b, hb, e2⟩ := own_block_some e.symm
    exact ha a b hA hb e2.symm
theorem PrL.lt {B j n c : Nat} {A : Option Addr} {xs : List Value} (h : LS w base L) (hB : B ≤ w.heap.size) (ho : w.ownsRow base 22 1 (.slice A n c) n xs) : ∀ k, PrL B (.slice A n c) L j k → k < w.heap.size := fun k hk => by
  rcases hk with (hk | hk) | ⟨q, z, _, hz, hk⟩
  · omega
  · exact own_lt ho k hk
  · exact (h.lb hz k hk).2
theorem PrL.not_blk {B j n c g : Nat} {A : Option Addr} {xs : List Value} {cs : Array Value} (h : LS w base L) (hg : Blk w g 37 cs) (hz : B ≤ g) (ho : w.ownsRow base 22 1 (.slice A n c) n xs) : ¬ PrL B (.slice A n c) L j g := fun hk => by
  rcases hk with (hk | hk) | ⟨q, z, _, hz', hk⟩
  · omega
  · exact own_blk_ne ho hg (by decide) hk
  · rcases hk with ⟨ad, e, e2⟩ | ⟨x, hx, ad, e, e2⟩
    · have h1 := h.row hz'
      refine own_blk_ne h1 hg (by decide) ?_
      rw [e, ← e2]
      rfl
    · exact (h.dat hz').ne_blk hg (by decide) x hx ad e (by rw [e2])
theorem PrL.not_lb {B j n c : Nat} {A : Option Addr} {xs : List Value} (h : LS w base L) (hB : B ≤ base) (ho : w.ownsRow base 22 1 (.slice A n c) n xs) {z : LR} (hz : L[j]? = some z) : ∀ k, LB z.2.1 z.1 k → ¬ PrL B (.slice A n c) L (j + 1) k := fun k hk hp => by
  rcases hp with (hp | hp) | ⟨q, u, hq, hu, hp⟩
  · have := (h.lb hz k hk).1
    omega
  · rcases hk with ⟨ad, e, e2⟩ | ⟨x, hx, ad, e, e2⟩
    · have h1 := h.row hz
      rcases own_ty_ne h1 ho (by decide) with d | d
      · rw [e] at d; cases d
      · refine d ?_
        rw [hp, e, ← e2]
        rfl
    · exact (h.dat hz).ne_own ho (by decide) x hx ad e (by rw [hp, e2])
  · exact h.lb_ne hz hu (by omega) k hk hp
end
/-! ### Data cut to 2000 bytes -/
def cutD (r : Rec) : Rec := { r with Data := r.Data.take 2000 }
def cutL (i : Nat) (os : List RA) : List RA := os.mapIdx fun k x => if k < i then (cutD x.1, x.2) else x
theorem cutL_len (i : Nat) (os : List RA) : (cutL i os).length = os.length := by simp [cutL]
theorem cutL_get (i : Nat) (os : List RA) (k : Nat) : (cutL i os)[k]? = os[k]?.map fun x => if k < i then (cutD x.1, x.2) else x := by unfold cutL; rw [List.getElem?_mapIdx]
theorem cutL_zero (os : List RA) : cutL 0 os = os := by
  apply List.ext_getElem?
  intro k
  rw [cutL_get]
  cases os[k]? <;> simp
theorem cutL_at {i : Nat} {os : List RA} {x : RA} (h : os[i]? = some x) : (cutL i os)[i]? = some x := by rw [cutL_get, h]; simp
theorem cutL_succ {i : Nat} {os : List RA} {x : RA} (h : os[i]? = some x) : cutL (i + 1) os = (cutL i os).set i (cutD x.1, x.2) := by
  apply List.ext_getElem?
  intro k
  rw [cutL_get]
  by_cases hk : i = k
  · subst hk
    rw [List.getElem?_set_self (by rw [cutL_len]; exact (List.getElem?_eq_some_iff.1 h).1), h]
    simp
  · rw [List.getElem?_set_ne hk, cutL_get]
    cases os[k]? with
    | none => rfl
    | some y =>
      simp only [Option.map_some]
      by_cases h1 : k < i
      · rw [if_pos h1, if_pos (by omega)]
      · rw [if_neg h1, if_neg (by omega)]
theorem cutL_big {i : Nat} {os : List RA} {r : Rec} {A : Option Addr} {c : Nat} (h : os[i]? = some (r, A, c)) (hb : 2000 < r.Data.length) : recCells (cutL (i + 1) os) = (recCells (cutL i os)).set (i * 12 + 11) (.slice A 2000 c) := by
  rw [cutL_succ h]
  refine recCells_set (os := cutL i os) 11 _ (cutL_at h) ?_ (by decide)
  have : (r.Data.take 2000).length = 2000 := by rw [List.length_take]; omega
  simp [RA.cs, Rec.cells, cutD, this]
theorem cutL_small {i : Nat} {os : List RA} {r : Rec} {A : Option Addr} {c : Nat} (h : os[i]? = some (r, A, c)) (hb : ¬ 2000 < r.Data.length) : cutL (i + 1) os = cutL i os := by
  rw [cutL_succ h]
  refine set_self ?_
  rw [cutL_at h]
  have : r.Data.take 2000 = r.Data := List.take_of_length_le (by omega)
  simp [cutD, this]
theorem cutL_mem {n : Nat} {os : List RA} (hn : os.length = n) {y : RA} (h : y ∈ cutL n os) : ∃ x ∈ os, y = (cutD x.1, x.2) := by
  obtain ⟨k, hk⟩ := List.mem_iff_getElem?.1 h
  rw [cutL_get] at hk
  obtain ⟨x, hx, e⟩ := Option.map_eq_some_iff.1 hk
  have := (List.getElem?_eq_some_iff.1 hx).1
  rw [if_pos (by omega)] at e
  exact ⟨x, List.mem_of_getElem? hx, e.symm⟩
theorem cutL_rr {w : World} {base n c : Nat} {A : Option Addr} {os : List RA} (ho : w.ownsRow base 25 12 (.slice A n c) n (recCells (cutL n os))) (hn : os.length = n) (hQ : OBs w base (bs os)) : RR w A (cutL n os) := by
  refine ⟨by rw [cutL_len, hn]; exact Reads.of_own ho, fun y hy => ?_⟩
  obtain ⟨x, hx, rfl⟩ := cutL_mem hn hy
  have h1 := (hQ.all (x.1.Data, x.2.1, x.2.2) (List.mem_map.2 ⟨x, hx, rfl⟩)).rb
  simp only at h1
  rw [← List.take_append_drop 2000 x.1.Data] at h1
  exact h1.begin_
end Go.Proofs.Ytikodgaomhmbmaa
