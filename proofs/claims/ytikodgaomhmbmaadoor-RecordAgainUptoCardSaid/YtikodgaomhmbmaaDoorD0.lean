/-
  Bytes that lie somewhere (RU), rows of bytes of one's own (OB) whatever may be frozen behind their cells, and lists of both.
-/
import Derived.Test.YtikodgaomhmbmaaDoorCL
import Derived.Laws.ResultCell
import Derived.Laws.IdiomStrings
set_option linter.unusedVariables false
set_option linter.unusedSimpArgs false
namespace Go.Proofs.YtikodgaomhmbmaaDoor
open Go.RowKit

/-- Bytes that lie in a block of bytes. -/
structure RU (w : World) (A : Option Addr) (l : List UInt8) : Prop where
  rb : RB w A l
  ty : l ≠ [] → ∃ ad cs fr, A = some ad ∧ w.heap[ad.block]? = some (.cells cs 5 fr)
section
variable {w w' : World} {A : Option Addr} {l : List UInt8}
theorem RU.kept {row : Option Nat} (h : RU w A l) (hgr : w.grownBy w' row) (hne : l ≠ [] → ∀ ad, A = some ad → some ad.block ≠ row) : RU w' A l := by
  refine ⟨⟨h.rb.1, fun hn => ?_⟩, fun hl => ?_⟩
  · have hl : l ≠ [] := by intro e; subst e; simp at hn
    obtain ⟨ad, e, hb, hc⟩ := h.rb.2 hn
    have hk := hgr.block ad.block hb (hne hl ad e)
    refine ⟨ad, e, Nat.lt_of_lt_of_le hb hgr.size, fun j u hu => ?_⟩
    rw [← hc j u hu]
    have e2 : (ad.add j).block = ad.block := block_of_add ad j
    exact World.cell?_of_block (by rw [e2]; exact hk)
  · obtain ⟨ad, cs, fr, e, hh⟩ := h.ty hl
    have hb : ad.block < w.heap.size := (Array.getElem?_eq_some_iff.1 hh).1
    exact ⟨ad, cs, fr, e, (hgr.block ad.block hb (hne hl ad e)).trans hh⟩
theorem RU.next (h : RU w A l) (hb : Below w.heap.size w w') : RU w' A l := h.kept (grown_of_below hb) (by simp)
theorem RU.nil : RU w A [] := ⟨RB.nil, fun h => absurd rfl h⟩
theorem RU.ne_blk {g : Nat} {t : TypeId} {cs : Array Value} (h : RU w A l) (hg : Blk w g t cs) (hne : 5 ≠ t) : l ≠ [] → ∀ ad, A = some ad → some ad.block ≠ some g := by
  intro hl ad hA e
  obtain ⟨ad', cs', fr, e', hh⟩ := h.ty hl
  rw [hA] at e'
  injection e' with e'
  subst e'
  injection e with e
  rw [e] at hh
  unfold Blk at hg
  rw [hg] at hh
  injection hh with hh
  injection hh with _ h2 _
  exact hne h2.symm
theorem RU.ne_own {base size n : Nat} {e : TypeId} {v : Value} {xs : List Value} (h : RU w A l) (ho : w.ownsRow base e size v n xs) (hne : 5 ≠ e) : l ≠ [] → ∀ ad, A = some ad → some ad.block ≠ v.ownBlock := by
  intro hl ad hA he
  obtain ⟨ad', cs', fr, e', hh⟩ := h.ty hl
  rw [hA] at e'
  injection e' with e'
  subst e'
  rcases ho.2 with ⟨rfl, _⟩ | ⟨g', cap, cur, rfl, _, hg, _⟩
  · simp [Value.ownBlock] at he
  · have : ad.block = g' := by simpa [Value.ownBlock] using he
    rw [this, hg] at hh
    injection hh with hh
    injection hh with _ h2 _
    exact hne h2.symm
theorem RU.of_own {base c : Nat} (h : w.ownsRow base 5 1 (.slice A l.length c) l.length (u8s l)) : RU w A l := by
  refine ⟨own_rb h, fun hl => ?_⟩
  rcases h.2 with ⟨_, h0⟩ | ⟨g, cap, cur, hv, _, hg, _⟩
  · exact absurd (List.eq_nil_of_length_eq_zero h0) hl
  · injection hv with hA
    subst hA
    exact ⟨_, cur, (0, 0), rfl, hg⟩
end

/-- Rows of two sorts are not in one block. -/
theorem own_ty_ne {w : World} {base base' size size' n n' : Nat} {e e' : TypeId} {v v' : Value} {xs xs' : List Value} (h : w.ownsRow base e size v n xs) (h' : w.ownsRow base' e' size' v' n' xs') (hne : e ≠ e') : v.ownBlock = none ∨ v.ownBlock ≠ v'.ownBlock := by
  rcases h.2 with ⟨rfl, _⟩ | ⟨g, cap, cur, rfl, _, hh, _⟩
  · exact .inl rfl
  · refine .inr fun he => ?_
    rcases h'.2 with ⟨rfl, _⟩ | ⟨g', cap', cur', rfl, _, hh', _⟩
    · simp [Value.ownBlock] at he
    · have : g = g' := by simpa [Value.ownBlock] using he
      subst this
      rw [hh] at hh'
      injection hh' with h1
      injection h1 with _ h2
      exact hne h2
/-- Bytes with their address and room. -/
abbrev BA := List UInt8 × Option Addr × Nat
def baCells (l : List BA) : List Value := l.map fun x => .slice x.2.1 x.1.length x.2.2
theorem baCells_length (l : List BA) : (baCells l).length = l.length := by simp [baCells]
theorem baCells_append (l m : List BA) : baCells (l ++ m) = baCells l ++ baCells m := by simp [baCells]
theorem baCells_get {l : List BA} {k : Nat} {x : BA} (h : l[k]? = some x) : (baCells l)[k]? = some (.slice x.2.1 x.1.length x.2.2) := by simp [baCells, h]
def RZs (w : World) (os : List BA) : Prop := ∀ x ∈ os, RU w x.2.1 x.1
section
variable {w w' : World} {os : List BA}
theorem RZs.kept {row : Option Nat} (h : RZs w os) (hgr : w.grownBy w' row) (hne : ∀ x ∈ os, x.1 ≠ [] → ∀ ad, x.2.1 = some ad → some ad.block ≠ row) : RZs w' os := fun x hx => (h x hx).kept hgr (hne x hx)
theorem RZs.ne_blk {g : Nat} {t : TypeId} {cs : Array Value} (h : RZs w os) (hg : Blk w g t cs) (hne : 5 ≠ t) : ∀ x ∈ os, x.1 ≠ [] → ∀ ad, x.2.1 = some ad → some ad.block ≠ some g := fun x hx => (h x hx).ne_blk hg hne
theorem RZs.ne_own {base size n : Nat} {e : TypeId} {v : Value} {xs : List Value} (h : RZs w os) (ho : w.ownsRow base e size v n xs) (hne : 5 ≠ e) : ∀ x ∈ os, x.1 ≠ [] → ∀ ad, x.2.1 = some ad → some ad.block ≠ v.ownBlock := fun x hx => (h x hx).ne_own ho hne
theorem RZs.nil : RZs w [] := fun x hx => by cases hx
theorem RZs.next (h : RZs w os) (hb : Below w.heap.size w w') : RZs w' os := fun x hx => (h x hx).next hb
theorem RZs.snoc {y : BA} (h : RZs w os) (hy : RU w y.2.1 y.1) : RZs w (os ++ [y]) := fun x hx => by
  rcases List.mem_append.1 hx with hx | hx
  · exact h x hx
  · obtain rfl : x = y := by simpa using hx
    exact hy
end
/-- A row of bytes that lies in a block of its own, and none of whose cells is frozen. -/
def OB (w : World) (base : Nat) (A : Option Addr) (c : Nat) (l : List UInt8) : Prop :=
  (A = none ∧ c = 0 ∧ l = []) ∨ ∃ (g : Nat) (cur : Array Value) (fz : Nat × Nat), A = some ⟨g, 0, none⟩ ∧ base ≤ g ∧ w.heap[g]? = some (.cells cur 5 fz) ∧ (fz.2 = 0 ∨ cur.size ≤ fz.1) ∧ l.length ≤ c ∧ cur.size = c ∧ cur.toList.take l.length = u8s l
/-- In different blocks. -/
def Apart (A B : Option Addr) : Prop := ∀ a b, A = some a → B = some b → a.block ≠ b.block
theorem Apart.symm {A B : Option Addr} (h : Apart A B) : Apart B A := fun a b ha hb e => h b a hb ha e.symm
theorem Apart.none_left {B : Option Addr} : Apart none B := fun a b ha => by cases ha
theorem Apart.none_right {A : Option Addr} : Apart A none := fun a b _ hb => by cases hb

section
variable {w w' : World} {base c : Nat} {A : Option Addr} {l : List UInt8}
theorem OB.nil : OB w base none 0 [] := .inl ⟨rfl, rfl, rfl⟩
theorem OB.of_own (h : w.ownsRow base 5 1 (.slice A l.length c) l.length (u8s l)) : OB w base A c l := by
  rcases h.2 with ⟨hv, h0⟩ | ⟨g, cap, cur, hv, hb, hg, h1, h2, h3, h4⟩
  · injection hv with ha _ hc
    exact .inl ⟨ha, hc, List.eq_nil_of_length_eq_zero h0⟩
  · injection hv with ha _ hc
    subst hc
    exact .inr ⟨g, cur, (0, 0), ha, hb, hg, .inl rfl, h1, by simpa using h3, by simpa using h4⟩
theorem OB.lt (h : OB w base A c l) {ad : Addr} (hA : A = some ad) : base ≤ ad.block ∧ ad.block < w.heap.size := by
  rcases h with ⟨ha, _⟩ | ⟨g, cur, fz, ha, hb, hg, _⟩
  · rw [ha] at hA; cases hA
  · rw [ha] at hA
    injection hA with hA
    subst hA
    exact ⟨hb, (Array.getElem?_eq_some_iff.1 hg).1⟩
theorem OB.kept {row : Option Nat} (h : OB w base A c l) (hgr : w.grownBy w' row) (hne : ∀ ad, A = some ad → some ad.block ≠ row) : OB w' base A c l := by
  rcases h with h | ⟨g, cur, fz, ha, hb, hg, r⟩
  · exact .inl h
  · exact .inr ⟨g, cur, fz, ha, hb, (hgr.block g (Array.getElem?_eq_some_iff.1 hg).1 (hne _ ha)).trans hg, r⟩
theorem OB.next (h : OB w base A c l) (hb : Below w.heap.size w w') : OB w' base A c l := h.kept (grown_of_below hb) (by simp)
theorem OB.mono {base' : Nat} (h : OB w base A c l) (hb : base' ≤ base) : OB w base' A c l := by
  rcases h with h | ⟨g, cur, fz, ha, hb', r⟩
  · exact .inl h
  · exact .inr ⟨g, cur, fz, ha, by omega, r⟩
theorem OB.cell (h : OB w base A c l) {ad : Addr} (hA : A = some ad) {j : Nat} {u : Value} (hu : (u8s l)[j]? = some u) : w.cell? (ad.add j) = some u := by
  rcases h with ⟨ha, _⟩ | ⟨g, cur, fz, ha, hb, hg, _, _, _, ht⟩
  · rw [ha] at hA; cases hA
  · rw [ha] at hA
    injection hA with hA
    subst hA
    have e : (⟨g, 0, none⟩ : Addr).add j = ⟨g, j, none⟩ := by unfold Addr.add; split <;> simp_all
    rw [e, cell_of_row w g j cur _ fz hg]
    rw [← ht, List.getElem?_take] at hu
    split at hu
    · simpa using hu
    · cases hu
theorem OB.ru (h : OB w base A c l) : RU w A l := by
  have h0 := h
  rcases h with ⟨ha, _, hl⟩ | ⟨g, cur, fz, ha, hb, hg, _⟩
  · subst hl; exact RU.nil
  · exact ⟨⟨by simp [u8s], fun _ => ⟨_, ha, (Array.getElem?_eq_some_iff.1 hg).1, fun j u hu => h0.cell ha hu⟩⟩, fun _ => ⟨_, cur, fz, ha, hg⟩⟩
theorem OB.rb (h : OB w base A c l) : RB w A l := h.ru.rb
theorem OB.at_ (h : OB w base A c l) (hl : 0 < l.length) : ∃ g, A = some ⟨g, 0, none⟩ ∧ base ≤ g := by
  rcases h with ⟨_, _, h0⟩ | ⟨g, cur, fz, ha, hb, _⟩
  · subst h0; simp at hl
  · exact ⟨g, ha, hb⟩
theorem OB.len (h : OB w base A c l) : l.length ≤ c := by
  rcases h with ⟨_, hc, h0⟩ | ⟨_, _, _, _, _, _, _, h1, _⟩
  · subst h0; simp
  · exact h1
theorem OB.ne_blk {g : Nat} {t : TypeId} {cs : Array Value} (h : OB w base A c l) (hg : Blk w g t cs) (hne : 5 ≠ t) : ∀ ad, A = some ad → some ad.block ≠ some g := by
  intro ad hA e
  rcases h with ⟨ha, _⟩ | ⟨g', cur, fz, ha, hb, hh, _⟩
  · rw [ha] at hA; cases hA
  · rw [ha] at hA
    injection hA with hA
    subst hA
    injection e with e
    simp only at e
    subst e
    unfold Blk at hg
    rw [hg] at hh
    injection hh with hh
    injection hh with _ h2 _
    exact hne h2.symm
theorem OB.ne_own {base' size n : Nat} {e : TypeId} {v : Value} {xs : List Value} (h : OB w base A c l) (ho : w.ownsRow base' e size v n xs) (hne : 5 ≠ e) : ∀ ad, A = some ad → some ad.block ≠ v.ownBlock := by
  intro ad hA he
  rcases ho.2 with ⟨rfl, _⟩ | ⟨g', cap, cur, rfl, _, hg, _⟩
  · simp [Value.ownBlock] at he
  · exact h.ne_blk (g := g') (t := e) (cs := cur) hg hne ad hA (by simpa [Value.ownBlock] using he)
/-- A row that was there and a new one. -/
theorem OB.apart_new {base' c' : Nat} {A' : Option Addr} {l' : List UInt8} (h : OB w base A c l) (h' : OB w' base' A' c' l') (hb : w.heap.size ≤ base') : Apart A A' := fun a b ha hb' e => by
  have h1 := (h.lt ha).2
  have h2 := (h'.lt hb').1
  omega
theorem Rec.u8_lit (b : UInt8) : ∃ n : Nat, n < 256 ∧ (Value.int .u8 b.toNat) = .int .u8 n := ⟨b.toNat, b.toNat_lt, rfl⟩
theorem u8s_set (l : List UInt8) (k : Nat) (b : UInt8) : u8s (l.set k b) = (u8s l).set k (.int .u8 b.toNat) := by unfold u8s; rw [List.map_set]
/-- One byte is written. -/
theorem OB.set_ {g k : Nat} (h : OB w base (some ⟨g, 0, none⟩) c l) (hk : k < l.length) (b : UInt8) :
    OB (w.setCell ⟨g, k, none⟩ (.int .u8 b.toNat)) base (some ⟨g, 0, none⟩) c (l.set k b) ∧ w.grownBy (w.setCell ⟨g, k, none⟩ (.int .u8 b.toNat)) (some g) ∧ w.frozen? ⟨g, k, none⟩ = false ∧ ∃ u, w.cell? ⟨g, k, none⟩ = some u := by
  have h0 := h
  rcases h with ⟨ha, _⟩ | ⟨g', cur, fz, ha, hb, hh, hz, h1, h3, h4⟩
  · cases ha
  · injection ha with ha
    injection ha with hg
    subst hg
    refine ⟨.inr ⟨g, cur.setIfInBounds k (.int .u8 b.toNat), fz, rfl, hb, ?_, by simpa using hz, by simpa using h1, by simpa using h3, ?_⟩, ⟨rfl, rfl, rfl, by simp [World.setCell], fun i _ hne => Below.heap_setCell _ _ _ _ (fun e => hne (by rw [e]))⟩, ?_, ?_⟩
    · simp [World.setCell, Array.getElem?_modify, hh]
    · rw [Array.toList_setIfInBounds, List.length_set, List.take_set, h4, u8s_set]
    · obtain ⟨lo, hi⟩ := fz
      simp only [World.frozen?, hh, Bool.and_eq_false_iff, decide_eq_false_iff_not]
      simp only at hz
      rcases hz with hz | hz
      · right; omega
      · left; omega
    · have e : (⟨g, 0, none⟩ : Addr).add k = ⟨g, k, none⟩ := by unfold Addr.add; split <;> simp_all
      exact ⟨_, by rw [← e]; exact h0.cell rfl (u8s_get hk)⟩
end

section
variable {P : Program} {ops : Array Oper} {rest : List Oper} {o : Oper} {a : Act} {Q : Exit → Act → World → Prop} {W : World}
/-- A store into a row of bytes of one's own. -/
theorem ev_store_ob (hgd : o.guard = none) (hN : o.dst = none) {t : TypeId} {p x : Operand} (ho : o.op = .store t p x) {base g c k : Nat} {l : List UInt8} (hown : OB W base (some ⟨g, 0, none⟩) c l) (hk : k < l.length) {b : UInt8}
    (hp : a.eval p = .pointer (some ⟨g, k, none⟩)) (hx : a.eval x = .int .u8 b.toNat) (hi : (P.info? t).map (·.size) = some 1)
    (h : ∀ w1, OB w1 base (some ⟨g, 0, none⟩) c (l.set k b) → W.grownBy w1 (some g) → wpList P ops Q rest a w1) : wpList P ops Q (o :: rest) a W := by
  obtain ⟨j, hj, hs⟩ := Option.map_eq_some_iff.1 hi
  obtain ⟨h2, h3, h4, u, hc⟩ := hown.set_ hk b
  refine ev_skip hgd hN (w1 := W.setCell ⟨g, k, none⟩ (.int .u8 b.toNat)) ?_ (h _ h2 h3)
  have hst : (storeVar t ⟨g, k, none⟩ (.int .u8 b.toNat)).run P W = .ok () (W.setCell ⟨g, k, none⟩ (.int .u8 b.toNat)) := by
    have h0 : (⟨g, k, none⟩ : Addr).add 0 = ⟨g, k, none⟩ := rfl
    have hst1 : (store ⟨g, k, none⟩ (.int .u8 b.toNat)).run P W = .ok () (W.setCell ⟨g, k, none⟩ (.int .u8 b.toNat)) := by
      rw [run_store P W _ _ .plain rfl]
      simp [stored, hc, h4]
    simp [storeVar, sizeOf, typeInfo, hj, hs, Value.cells, storeCells, h0, hst1]
  simp [execOp, ho, hp, hx, Instr.storeAt, Instr.sureAddr, hst]
end

/-! ### Lists of such rows -/
/-- Rows of one's own, each in another block. -/
structure OBs (w : World) (base : Nat) (os : List BA) : Prop where
  all : ∀ x ∈ os, OB w base x.2.1 x.2.2 x.1
  apart : os.Pairwise fun x y => Apart x.2.1 y.2.1
section
variable {w w' : World} {base : Nat} {os : List BA}
theorem OBs.nil : OBs w base [] := ⟨fun x hx => (by cases hx), List.Pairwise.nil⟩
theorem OBs.kept {row : Option Nat} (h : OBs w base os) (hgr : w.grownBy w' row) (hne : ∀ x ∈ os, ∀ ad, x.2.1 = some ad → some ad.block ≠ row) : OBs w' base os := ⟨fun x hx => (h.all x hx).kept hgr (hne x hx), h.apart⟩
theorem OBs.next (h : OBs w base os) (hb : Below w.heap.size w w') : OBs w' base os := h.kept (grown_of_below hb) (by simp)
theorem OBs.ne_blk {g : Nat} {t : TypeId} {cs : Array Value} (h : OBs w base os) (hg : Blk w g t cs) (hne : 5 ≠ t) : ∀ x ∈ os, ∀ ad, x.2.1 = some ad → some ad.block ≠ some g := fun x hx => (h.all x hx).ne_blk hg hne
theorem OBs.ne_own {base' size n : Nat} {e : TypeId} {v : Value} {xs : List Value} (h : OBs w base os) (ho : w.ownsRow base' e size v n xs) (hne : 5 ≠ e) : ∀ x ∈ os, ∀ ad, x.2.1 = some ad → some ad.block ≠ v.ownBlock := fun x hx => (h.all x hx).ne_own ho hne
theorem OBs.rus (h : OBs w base os) : RZs w os := fun x hx => (h.all x hx).ru
theorem OBs.lt (h : OBs w base os) : ∀ x ∈ os, ∀ ad, x.2.1 = some ad → base ≤ ad.block ∧ ad.block < w.heap.size := fun x hx _ e => (h.all x hx).lt e
theorem OBs.mono {base' : Nat} (h : OBs w base os) (hb : base' ≤ base) : OBs w base' os := ⟨fun x hx => (h.all x hx).mono hb, h.apart⟩
theorem OBs.apart_new {base' c : Nat} {A : Option Addr} {l : List UInt8} (h : OBs w base os) (h' : OB w' base' A c l) (hb : w.heap.size ≤ base') : ∀ x ∈ os, Apart x.2.1 A := fun x hx => (h.all x hx).apart_new h' hb
theorem OBs.snoc {y : BA} (h : OBs w base os) (hy : OB w base y.2.1 y.2.2 y.1) (hd : ∀ x ∈ os, Apart x.2.1 y.2.1) : OBs w base (os ++ [y]) := by
  constructor
  · intro x hx
    rcases List.mem_append.1 hx with hx | hx
    · exact h.all x hx
    · obtain rfl : x = y := by simpa using hx
      exact hy
  · refine List.pairwise_append.2 ⟨h.apart, List.pairwise_singleton _ _, ?_⟩
    intro a ha b hb
    obtain rfl : b = y := by simpa using hb
    exact hd a ha
theorem OBs.append {os' : List BA} (h : OBs w base os) (h' : OBs w base os') (hd : ∀ x ∈ os, ∀ y ∈ os', Apart x.2.1 y.2.1) : OBs w base (os ++ os') :=
  ⟨fun x hx => (List.mem_append.1 hx).elim (h.all x) (h'.all x), List.pairwise_append.2 ⟨h.apart, h'.apart, hd⟩⟩
/-- All but one of the rows. -/
theorem OBs.others (h : OBs w base os) {k : Nat} {y : BA} (hk : os[k]? = some y) {j : Nat} {x : BA} (hj : os[j]? = some x) (hne : j ≠ k) : Apart x.2.1 y.2.1 := by
  have hp := List.pairwise_iff_getElem.1 h.apart
  obtain ⟨hk1, rfl⟩ := List.getElem?_eq_some_iff.1 hk
  obtain ⟨hj1, rfl⟩ := List.getElem?_eq_some_iff.1 hj
  rcases Nat.lt_or_gt_of_ne hne with hl | hl
  · exact hp j k hj1 hk1 hl
  · exact (hp k j hk1 hj1 hl).symm
/-- One of the rows holds other bytes, the others stay. -/
theorem OBs.set_ (h : OBs w base os) {k : Nat} {b : List UInt8} {g c : Nat} (hk : os[k]? = some (b, some ⟨g, 0, none⟩, c)) {b' : List UInt8} (hy : OB w' base (some ⟨g, 0, none⟩) c b') (hgr : w.grownBy w' (some g)) : OBs w' base (os.set k (b', some ⟨g, 0, none⟩, c)) := by
  have hkl : k < os.length := (List.getElem?_eq_some_iff.1 hk).1
  constructor
  · intro x hx
    obtain ⟨j, hj⟩ := List.mem_iff_getElem?.1 hx
    rw [List.getElem?_set] at hj
    split at hj
    · rename_i e
      subst e
      have hj : some (b', some (⟨g, 0, none⟩ : Addr), c) = some x := by first | exact hj | (rw [if_pos hkl] at hj; exact hj)
      injection hj with hj
      subst hj
      exact hy
    · rename_i e
      refine (h.all x (List.mem_of_getElem? hj)).kept hgr fun ad hA e' => ?_
      injection e' with e'
      exact h.others hk hj (fun e2 => e e2.symm) ad ⟨g, 0, none⟩ hA rfl e'
  · rw [List.pairwise_iff_getElem]
    intro i j hi hj hij
    have e1 : ∀ (i : Nat) (hi : i < (os.set k (b', some ⟨g, 0, none⟩, c)).length), (os.set k (b', some ⟨g, 0, none⟩, c))[i].2.1 = (os[i]'(by simpa using hi)).2.1 := by
      intro i hi
      rw [List.getElem_set]
      split
      · rename_i e
        subst e
        obtain ⟨_, e2⟩ := List.getElem?_eq_some_iff.1 hk
        rw [e2]
      · rfl
    rw [e1 i hi, e1 j hj]
    exact List.pairwise_iff_getElem.1 h.apart i j _ _ hij
end
/-- Two lists of rows lie apart. -/
def AllApart (os qs : List BA) : Prop := ∀ x ∈ os, ∀ y ∈ qs, Apart x.2.1 y.2.1
theorem AllApart.symm {os qs : List BA} (h : AllApart os qs) : AllApart qs os := fun y hy x hx => (h x hx y hy).symm
theorem OBs.aparts_new {w w' : World} {base base' : Nat} {os qs : List BA} (h : OBs w base os) (h' : OBs w' base' qs) (hb : w.heap.size ≤ base') : AllApart os qs := fun x hx y hy => (h.all x hx).apart_new (h'.all y hy) hb
/-- The data of records, as rows of bytes. -/
def bs (os : List RA) : List BA := os.map fun x => (x.1.Data, x.2.1, x.2.2)
theorem bs_nil : bs [] = [] := rfl
theorem bs_snoc (os : List RA) (r : Rec) (A : Option Addr) (c : Nat) : bs (os ++ [(r, A, c)]) = bs os ++ [(r.Data, A, c)] := by simp [bs]
theorem bs_len (os : List RA) : (bs os).length = os.length := by simp [bs]
theorem bs_get {os : List RA} {k : Nat} {x : RA} (h : os[k]? = some x) : (bs os)[k]? = some (x.1.Data, x.2.1, x.2.2) := by simp [bs, h]
end Go.Proofs.YtikodgaomhmbmaaDoor
