/-
  What a call that fills and lengthens rows keeps up (Fill); the walks of annalslaw4.tail and data.
-/
import Derived.Test.YtikodgaomhmbmaaH1
import Derived.Test.YtikodgaomhmbmaaDR
import Derived.Test.YtikodgaomhmbmaaS00
set_option linter.unusedVariables false
set_option linter.unusedSimpArgs false
namespace Go.Proofs.Ytikodgaomhmbmaa
open Go.RowKit
attribute [local go_sem] Rec.size_ Rec.g0 Rec.g1 Rec.g2 Rec.g3 Rec.g4 Rec.g5 Rec.g6 Rec.g7 Rec.g8 Rec.g9 Rec.g10 Rec.g11 Rec.fold Rec.lit_fold

/-- A family that grew out of the rows l, whose blocks alone have been written. -/
structure Fill (F : Nat → List UInt8) (w0 : World) (l : List BA) (base : Nat) (w : World) (os : List (Nat × BA)) : Prop where
  fam : Fam F w base os
  sp : Spared w0 w l
  loc : ∀ x ∈ os, ∀ ad, x.2.2.1 = some ad → w0.heap.size ≤ ad.block ∨ ∃ y ∈ l, y.2.1 = x.2.2.1
  ok : base ≤ w0.heap.size
section
variable {F : Nat → List UInt8} {w0 w w' : World} {l : List BA} {base : Nat} {os : List (Nat × BA)}
theorem Fill.size (h : Fill F w0 l base w os) : w0.heap.size ≤ w.heap.size := h.sp.size
theorem Fill.kept {row : Option Nat} (h : Fill F w0 l base w os) (hgr : w.grownBy w' row) (hne : (∀ x ∈ os, ∀ ad, x.2.2.1 = some ad → some ad.block ≠ row) ∧ ∀ k, row = some k → w0.heap.size ≤ k) : Fill F w0 l base w' os := ⟨h.fam.kept hgr hne.1, h.sp.own hgr hne.2, h.loc, h.ok⟩
theorem Fill.grown (h : Fill F w0 l base w os) (hgr : w.grownBy w' none) : Fill F w0 l base w' os := h.kept hgr ⟨fun x hx ad e e2 => (by cases e2), fun k e => (by cases e)⟩
theorem Fill.next (h : Fill F w0 l base w os) (hb : Below w.heap.size w w') : Fill F w0 l base w' os := h.kept (grown_of_below hb) (by simp)
theorem Fill.ne_own {e : TypeId} {size n : Nat} {v : Value} {xs : List Value} (h : Fill F w0 l base w os) (ho : w.ownsRow w0.heap.size e size v n xs) (hne : 5 ≠ e) : (∀ x ∈ os, ∀ ad, x.2.2.1 = some ad → some ad.block ≠ v.ownBlock) ∧ ∀ k, v.ownBlock = some k → w0.heap.size ≤ k := ⟨h.fam.ne_own ho hne, fun k e => own_base ho k e⟩
theorem Fill.ne_blk {g : Nat} {t : TypeId} {cs : Array Value} (h : Fill F w0 l base w os) (hg : Blk w g t cs) (hz : w0.heap.size ≤ g) (hne : 5 ≠ t) : (∀ x ∈ os, ∀ ad, x.2.2.1 = some ad → some ad.block ≠ some g) ∧ ∀ k, some g = some k → w0.heap.size ≤ k := ⟨h.fam.ne_blk hg hne, fun k e => by injection e with e; omega⟩
theorem Fill.sub {qs : List (Nat × BA)} (h : Fill F w0 l base w os) (hs : ∀ x ∈ qs, x ∈ os) : Fill F w0 l base w qs := ⟨h.fam.sub hs, h.sp, fun x hx => h.loc x (hs x hx), h.ok⟩
theorem Fill.append (h : Fill F w0 l base w os) {t c : Nat} {A : Option Addr} {b b' : List UInt8} (hx : (t, b, A, c) ∈ os) (hp : b ++ b' <+: F t) {A1 : Option Addr} {c1 : Nat} (hG : Grew w base A c b b' A1 c1 w') : Fill F w0 l base w' ((t, b ++ b', A1, c1) :: os) := by
  refine ⟨h.fam.append hx hp hG (Nat.le_trans h.ok h.size), h.sp.step hG.grown (h.loc _ hx), fun x hx' ad e => ?_, h.ok⟩
  rcases List.mem_cons.1 hx' with rfl | hx'
  · rcases hG.lies with ⟨rfl, _⟩ | ⟨_, hnew⟩
    · exact h.loc _ hx ad e
    · exact .inl (Nat.le_trans h.size (hnew ad e))
  · exact h.loc x hx' ad e
theorem Fill.start {l' : List BA} (hQ : OBs w base l') (hsp : Spared w0 w l) (hloc : ∀ x ∈ l', ∃ y ∈ l, y.2.1 = x.2.1) (hF : ∀ i x, l'[i]? = some x → x.1 <+: F i) (hok : base ≤ w0.heap.size) : Fill F w0 l base w (tagged l') :=
  ⟨Fam.of_rows hQ hF, hsp, fun x hx ad _ => .inr (hloc _ (List.mem_of_getElem? (tagged_mem.1 hx))), hok⟩
end
/-- A row of another sort, when a member of a family is lengthened. -/
theorem own_fam {F : Nat → List UInt8} {w w1 : World} {base b size n : Nat} {e : TypeId} {v : Value} {xs : List Value} {os : List (Nat × BA)} (ho : w.ownsRow b e size v n xs) (h : Fam F w base os) {x : Nat × BA} (hx : x ∈ os) (hgr : w.grownBy w1 (x.2.2.1.map (·.block))) (hne : 5 ≠ e) : w1.ownsRow b e size v n xs := by
  refine ho.kept hgr ?_
  cases hA : x.2.2.1 with
  | none => cases v.ownBlock <;> simp
  | some ad => exact .inr fun e2 => h.ne_own ho hne x hx ad hA e2.symm

theorem own_sym {a b : Option Nat} (h : a = none ∨ a ≠ b) : b = none ∨ b ≠ a := by
  rcases h with h | h
  · cases b with
    | none => exact .inl rfl
    | some k => exact .inr (by rw [h]; simp)
  · exact .inr fun e => h e.symm
/-! ### Marks -/
def MK (i n : Nat) : List UInt8 := List.replicate n (UInt8.ofNat (1 + i % 250))
def TL (i k : Nat) : List UInt8 := List.replicate k (UInt8.ofNat (251 + i % 5))
theorem MK_len (i n : Nat) : (MK i n).length = n := by simp [MK]
theorem TL_len (i k : Nat) : (TL i k).length = k := by simp [TL]
theorem TL_add (i j k : Nat) : TL i j ++ TL i k = TL i (j + k) := by unfold TL; rw [List.replicate_append_replicate]
theorem mk_num (i : Nat) : (UInt8.ofNat (1 + i % 250)).toNat = 1 + i % 250 := by rw [UInt8.toNat_ofNat']; omega
theorem tl_num (i : Nat) : (UInt8.ofNat (251 + i % 5)).toNat = 251 + i % 5 := by rw [UInt8.toNat_ofNat']; omega

/-- The data of records, as a list of bytes. -/
def DataSaid (l : List RA) (n : Nat) (w : World) (e : Ending) (w' : World) : Prop :=
  ∃ (A' : Option Addr) (c' : Nat), e = .returned (.slice A' n c') ∧ w'.ownsRow w.heap.size 23 1 (.slice A' n c') n (baCells (bs l)) ∧ Below w.heap.size w w'
end Go.Proofs.Ytikodgaomhmbmaa
