/-
  What stays when rows of one's own are written and lengthened: a frame for many rows, and families of slices that share rows only where they agree.
-/
import Derived.Test.YtikodgaomhmbmaaH2
set_option linter.unusedVariables false
set_option linter.unusedSimpArgs false
namespace Go.Proofs.Ytikodgaomhmbmaa
open Go.RowKit

/-! ### A frame: all that was there stays but for these rows' blocks -/
structure Spared (w w' : World) (os : List BA) : Prop where
  os_ : w'.os = w.os
  tape : w'.tape = w.tape
  output : w'.output = w.output
  size : w.heap.size ≤ w'.heap.size
  block : ∀ k, k < w.heap.size → (∀ x ∈ os, ∀ ad, x.2.1 = some ad → ad.block ≠ k) → w'.heap[k]? = w.heap[k]?
section
variable {w w' w'' : World} {os : List BA}
theorem Spared.refl : Spared w w os := ⟨rfl, rfl, rfl, Nat.le_refl _, fun _ _ _ => rfl⟩
/-- A step that writes one of the rows, or what is new. -/
theorem Spared.step (h : Spared w w' os) {A : Option Addr} (hg : w'.grownBy w'' (A.map (·.block))) (hA : ∀ ad, A = some ad → w.heap.size ≤ ad.block ∨ ∃ x ∈ os, x.2.1 = A) : Spared w w'' os := by
  refine ⟨hg.os.trans h.os_, hg.tape.trans h.tape, hg.output.trans h.output, Nat.le_trans h.size hg.size, fun k hk hne => ?_⟩
  rw [hg.block k (Nat.lt_of_lt_of_le hk h.size) ?_]
  · exact h.block k hk hne
  · intro e
    cases hA' : A with
    | none => rw [hA'] at e; cases e
    | some ad =>
      rw [hA'] at e
      injection e with e
      have e : k = ad.block := e
      rcases hA ad hA' with hn | ⟨x, hx, hxA⟩
      · omega
      · exact hne x hx ad (hxA.trans hA') e.symm
theorem Spared.grown (h : Spared w w' os) (hg : w'.grownBy w'' none) : Spared w w'' os := h.step (A := none) hg (fun ad e => by cases e)
theorem Spared.next (h : Spared w w' os) (hb : Below w'.heap.size w' w'') : Spared w w'' os := h.grown (grown_of_below hb)
/-- Written to blocks that are newer than the begin. -/
theorem Spared.own (h : Spared w w' os) {row : Option Nat} (hg : w'.grownBy w'' row) (hr : ∀ k, row = some k → w.heap.size ≤ k) : Spared w w'' os := by
  refine ⟨hg.os.trans h.os_, hg.tape.trans h.tape, hg.output.trans h.output, Nat.le_trans h.size hg.size, fun k hk hne => ?_⟩
  rw [hg.block k (Nat.lt_of_lt_of_le hk h.size) (fun e => by have := hr k e.symm; omega)]
  exact h.block k hk hne
theorem Spared.below {N : Nat} (h : Spared w w' os) {base : Nat} (hQ : OBs w base os) (hN : N ≤ base) (hw : N ≤ w.heap.size) : Below N w w' :=
  ⟨h.os_, h.tape, h.output, h.size, fun i hi => h.block i (by omega) fun x hx ad e => by have := (hQ.lt x hx ad e).1; omega⟩
theorem Spared.keeps (h : Spared w w' os) {base : Nat} (hQ : OBs w base os) {N : Nat} {v : World} (hb : Below N v w) (hN : N ≤ base) (hw : N ≤ w.heap.size) : Below N v w' := hb.trans (h.below hQ hN hw)
theorem Blk.spared {g : Nat} {t : TypeId} {cs : Array Value} (hg : Blk w g t cs) (h : Spared w w' os) {base : Nat} (hQ : OBs w base os) (hne : 5 ≠ t) : Blk w' g t cs :=
  (h.block g hg.lt fun x hx ad e => fun e2 => hQ.ne_blk hg hne x hx ad e (by rw [e2])).trans hg
theorem own_spared {base b size n : Nat} {e : TypeId} {v : Value} {xs : List Value} (ho : w.ownsRow b e size v n xs) (h : Spared w w' os) (hQ : OBs w base os) (hne : 5 ≠ e) : w'.ownsRow b e size v n xs := by
  refine ⟨ho.1, ?_⟩
  rcases ho.2 with h2 | ⟨g, cap, cur, hv, hb, hg, r⟩
  · exact .inl h2
  · refine .inr ⟨g, cap, cur, hv, hb, ?_, r⟩
    exact (Blk.spared (g := g) (t := e) (cs := cur) hg h hQ hne)
theorem RU.spared {A : Option Addr} {l : List UInt8} (hr : RU w A l) (h : Spared w w' os) (hd : ∀ x ∈ os, Apart x.2.1 A) : RU w' A l := by
  have hk : ∀ ad, A = some ad → ad.block < w.heap.size → w'.heap[ad.block]? = w.heap[ad.block]? := fun ad e hlt => h.block _ hlt fun x hx ad' e' => hd x hx ad' ad e' e
  refine ⟨⟨hr.rb.1, fun hn => ?_⟩, fun hl => ?_⟩
  · obtain ⟨ad, e, hb, hc⟩ := hr.rb.2 hn
    refine ⟨ad, e, Nat.lt_of_lt_of_le hb h.size, fun j u hu => ?_⟩
    rw [← hc j u hu]
    have e2 : (ad.add j).block = ad.block := block_of_add ad j
    exact World.cell?_of_block (by rw [e2]; exact hk ad e hb)
  · obtain ⟨ad, cs, fr, e, hh⟩ := hr.ty hl
    exact ⟨ad, cs, fr, e, (hk ad e (Array.getElem?_eq_some_iff.1 hh).1).trans hh⟩
theorem OB.spared {base c : Nat} {A : Option Addr} {l : List UInt8} (hB : OB w base A c l) (h : Spared w w' os) (hd : ∀ x ∈ os, Apart x.2.1 A) : OB w' base A c l := by
  rcases hB with hB | ⟨g, cur, fz, ha, hb, hg, r⟩
  · exact .inl hB
  · exact .inr ⟨g, cur, fz, ha, hb, (h.block g (Array.getElem?_eq_some_iff.1 hg).1 fun x hx ad' e' => hd x hx ad' _ e' ha).trans hg, r⟩
theorem OBs.spared {base : Nat} {qs : List BA} (hQ : OBs w base qs) (h : Spared w w' os) (hd : ∀ x ∈ os, ∀ y ∈ qs, Apart x.2.1 y.2.1) : OBs w' base qs := ⟨fun y hy => (hQ.all y hy).spared h (fun x hx => hd x hx y hy), hQ.apart⟩
end
/-! ### Families -/
/-- Slices of one's own, each with a mark t and a begin of what F says of that mark; two of them lie apart, or they are of one mark and begin at one place. -/
structure Fam (F : Nat → List UInt8) (w : World) (base : Nat) (os : List (Nat × BA)) : Prop where
  all : ∀ x ∈ os, OB w base x.2.2.1 x.2.2.2 x.2.1
  pre : ∀ x ∈ os, x.2.1 <+: F x.1
  pair : ∀ x ∈ os, ∀ y ∈ os, Apart x.2.2.1 y.2.2.1 ∨ (x.1 = y.1 ∧ x.2.2 = y.2.2)
section
variable {F : Nat → List UInt8} {w w' : World} {base : Nat} {os : List (Nat × BA)}
theorem Fam.sub {qs : List (Nat × BA)} (h : Fam F w base os) (hs : ∀ x ∈ qs, x ∈ os) : Fam F w base qs := ⟨fun x hx => h.all x (hs x hx), fun x hx => h.pre x (hs x hx), fun x hx y hy => h.pair x (hs x hx) y (hs y hy)⟩
theorem Fam.kept {row : Option Nat} (h : Fam F w base os) (hgr : w.grownBy w' row) (hne : ∀ x ∈ os, ∀ ad, x.2.2.1 = some ad → some ad.block ≠ row) : Fam F w' base os := ⟨fun x hx => (h.all x hx).kept hgr (hne x hx), h.pre, h.pair⟩
theorem Fam.next (h : Fam F w base os) (hb : Below w.heap.size w w') : Fam F w' base os := h.kept (grown_of_below hb) (by simp)
theorem Fam.ne_own {base' size n : Nat} {e : TypeId} {v : Value} {xs : List Value} (h : Fam F w base os) (ho : w.ownsRow base' e size v n xs) (hne : 5 ≠ e) : ∀ x ∈ os, ∀ ad, x.2.2.1 = some ad → some ad.block ≠ v.ownBlock := fun x hx => (h.all x hx).ne_own ho hne
theorem Fam.ne_blk {g : Nat} {t : TypeId} {cs : Array Value} (h : Fam F w base os) (hg : Blk w g t cs) (hne : 5 ≠ t) : ∀ x ∈ os, ∀ ad, x.2.2.1 = some ad → some ad.block ≠ some g := fun x hx => (h.all x hx).ne_blk hg hne
theorem agrees_of_prefix {m k f : List UInt8} (h1 : m <+: f) (h2 : k <+: f) : Agrees m k := by
  intro j x y hx hy
  obtain ⟨t1, rfl⟩ := h1
  obtain ⟨t2, e⟩ := h2
  have h1 : (m ++ t1)[j]? = some x := by rw [List.getElem?_append_left (List.getElem?_eq_some_iff.1 hx).1]; exact hx
  have h2 : (k ++ t2)[j]? = some y := by rw [List.getElem?_append_left (List.getElem?_eq_some_iff.1 hy).1]; exact hy
  rw [e, h1] at h2
  injection h2
theorem Fam.spared {l : List BA} (h : Fam F w base os) (hs : Spared w w' l) (hd : ∀ x ∈ l, ∀ y ∈ os, Apart x.2.1 y.2.2.1) : Fam F w' base os := ⟨fun y hy => (h.all y hy).spared hs (fun x hx => hd x hx y hy), h.pre, h.pair⟩
theorem Fam.aparts_new {base' : Nat} {qs : List BA} (h : Fam F w base os) (h' : OBs w' base' qs) (hb : w.heap.size ≤ base') : ∀ y ∈ qs, ∀ x ∈ os, Apart y.2.1 x.2.2.1 := fun y hy x hx => ((h.all x hx).apart_new (h'.all y hy) hb).symm
/-- One of them is lengthened by what comes next of its mark. -/
theorem Fam.append (h : Fam F w base os) {t c : Nat} {A : Option Addr} {l l' : List UInt8} (hx : (t, l, A, c) ∈ os) (hp : l ++ l' <+: F t) {A1 : Option Addr} {c1 : Nat} {w1 : World} (hG : Grew w base A c l l' A1 c1 w1) (hbase : base ≤ w.heap.size) :
    Fam F w1 base ((t, l ++ l', A1, c1) :: os) := by
  have hold : ∀ y ∈ os, OB w1 base y.2.2.1 y.2.2.2 y.2.1 := fun y hy => by
    rcases h.pair y hy _ hx with hap | ⟨ht, hloc⟩
    · refine (h.all y hy).kept hG.grown fun ad e e2 => ?_
      cases hA : A with
      | none => rw [hA] at e2; cases e2
      | some ad' =>
        rw [hA] at e2
        injection e2 with e2
        exact hap ad ad' e hA e2
    · have e1 : y.2.2.1 = A := congrArg Prod.fst hloc
      have e2 : y.2.2.2 = c := congrArg Prod.snd hloc
      have hy' := h.all y hy
      rw [e1, e2] at hy' ⊢
      exact hG.also _ hy' (agrees_of_prefix (by have := h.pre y hy; rwa [show y.1 = t from ht] at this) hp)
  have hrel : ∀ y ∈ os, Apart y.2.2.1 A1 ∨ (y.1 = t ∧ y.2.2 = (A1, c1)) := fun y hy => by
    rcases hG.lies with ⟨rfl, rfl⟩ | ⟨_, hnew⟩
    · exact h.pair y hy _ hx
    · refine .inl fun a b ha hb e => ?_
      have h1 := ((h.all y hy).lt ha).2
      have h2 := hnew b hb
      omega
  refine ⟨fun y hy => ?_, fun y hy => ?_, fun x hx y hy => ?_⟩
  · rcases List.mem_cons.1 hy with rfl | hy
    · exact hG.made
    · exact hold y hy
  · rcases List.mem_cons.1 hy with rfl | hy
    · exact hp
    · exact h.pre y hy
  · rcases List.mem_cons.1 hx with rfl | hx <;> rcases List.mem_cons.1 hy with rfl | hy
    · exact .inr ⟨rfl, rfl⟩
    · rcases hrel y hy with h1 | ⟨h1, h2⟩
      · exact .inl h1.symm
      · exact .inr ⟨h1.symm, h2.symm⟩
    · exact hrel x hx
    · exact h.pair x hx y hy
end
/-- Rows that lie apart, each with its place as its mark. -/
def tagged (os : List BA) : List (Nat × BA) := os.zipIdx.map fun x => (x.2, x.1)
theorem tagged_mem {os : List BA} {x : Nat × BA} : x ∈ tagged os ↔ os[x.1]? = some x.2 := by
  unfold tagged
  rw [List.mem_map]
  constructor
  · rintro ⟨⟨y, i⟩, hy, rfl⟩
    rw [List.mem_zipIdx_iff_getElem?] at hy
    simpa using hy
  · intro h
    exact ⟨(x.2, x.1), by rw [List.mem_zipIdx_iff_getElem?]; simpa using h, rfl⟩
theorem Fam.of_rows {F : Nat → List UInt8} {w : World} {base : Nat} {os : List BA} (h : OBs w base os) (hp : ∀ i x, os[i]? = some x → x.1 <+: F i) : Fam F w base (tagged os) := by
  refine ⟨fun x hx => h.all _ (List.mem_of_getElem? (tagged_mem.1 hx)), fun x hx => hp _ _ (tagged_mem.1 hx), fun x hx y hy => ?_⟩
  by_cases e : x.1 = y.1
  · have h1 := tagged_mem.1 hx
    have h2 := tagged_mem.1 hy
    rw [e, h2] at h1
    injection h1 with h1
    exact .inr ⟨e, by rw [h1]⟩
  · exact .inl (h.others (tagged_mem.1 hy) (tagged_mem.1 hx) e)
end Go.Proofs.Ytikodgaomhmbmaa
