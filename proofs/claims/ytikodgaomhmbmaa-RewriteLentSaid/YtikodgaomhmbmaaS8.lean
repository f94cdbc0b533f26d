/-
  What annalslaw12.Marks.grow keeps up.
-/
import Derived.Test.YtikodgaomhmbmaaS7
set_option linter.unusedVariables false
set_option linter.unusedSimpArgs false
namespace Go.Proofs.Ytikodgaomhmbmaa
open Go.RowKit

theorem ownBlock_map (A : Option Addr) (n c : Nat) : (Value.slice A n c).ownBlock = A.map (·.block) := by cases A <;> rfl
/-- While lists are lengthened: ev and eg are what is being made. -/
structure GrV (Pr : Nat → Prop) (base : Nat) (w wr : World) (g n m x y : Nat) (a0 a1 a2 a3 a4 a5 : AC) (ls xs : List BA) (rs ys : List GA) (ss : List Int) (ev : List (Nat × BA)) (eg : List (Nat × GA)) : Prop where
  K1 : KX Pr w wr
  hg : Blk wr g 37 #[.slice a0.1 n a0.2, .slice a1.1 n a1.2, .slice a2.1 m a2.2, .slice a3.1 m a3.2, .slice a4.1 x a4.2, .slice a5.1 y a5.2]
  o0 : wr.ownsRow base 23 1 (.slice a0.1 n a0.2) n (baCells ls)
  B1 : OB wr base a1.1 a1.2 (mks n)
  o2 : wr.ownsRow base 22 1 (.slice a2.1 m a2.2) m (gaCells rs)
  o3 : wr.ownsRow base 3 1 (.slice a3.1 m a3.2) m (inC ss)
  o4 : wr.ownsRow base 23 1 (.slice a4.1 x a4.2) x (baCells xs)
  o5 : wr.ownsRow base 22 1 (.slice a5.1 y a5.2) y (gaCells ys)
  fam : Fam FB wr base (ev ++ (tagged ls ++ tagged xs))
  famG : FamG 25 12 (FRof rs ss) wr base (eg ++ (taggedG rs ++ taggedG ys))
  do0o4 : (Value.slice a0.1 n a0.2).ownBlock = none ∨ (Value.slice a0.1 n a0.2).ownBlock ≠ (Value.slice a4.1 x a4.2).ownBlock
  do2o5 : (Value.slice a2.1 m a2.2).ownBlock = none ∨ (Value.slice a2.1 m a2.2).ownBlock ≠ (Value.slice a5.1 y a5.2).ownBlock
  dV1B1 : ∀ z ∈ ev ++ (tagged ls ++ tagged xs), Apart z.2.2.1 a1.1
  nKg0 : ¬ Pr g
  nKo4 : ∀ k, (Value.slice a4.1 x a4.2).ownBlock = some k → ¬ Pr k
  nKo5 : ∀ k, (Value.slice a5.1 y a5.2).ownBlock = some k → ¬ Pr k
  nKV : ∀ z ∈ ev ++ (tagged ls ++ tagged xs), ∀ ad, z.2.2.1 = some ad → ¬ Pr ad.block
  nKJ : ∀ z ∈ eg ++ (taggedG rs ++ taggedG ys), ∀ ad, z.2.2.2.1 = some ad → ¬ Pr ad.block
  ok : base ≤ w.heap.size
section
variable {Pr : Nat → Prop} {base : Nat} {w wr W : World} {g n m x y : Nat} {a0 a1 a2 a3 a4 a5 : AC} {ls xs : List BA} {rs ys : List GA} {ss : List Int} {ev ev' : List (Nat × BA)} {eg eg' : List (Nat × GA)}
theorem GrV.size (h : GrV Pr base w wr g n m x y a0 a1 a2 a3 a4 a5 ls xs rs ys ss ev eg) : w.heap.size ≤ wr.heap.size := h.K1.size
theorem GrV.start (h : Mk Pr base w g n m x y a0 a1 a2 a3 a4 a5 ls xs rs ys ss) (hP : ∀ k, Pr k → k < w.heap.size) : GrV Pr base w w g n m x y a0 a1 a2 a3 a4 a5 ls xs rs ys ss [] [] :=
  ⟨KX.refl hP, h.hg, h.o0, h.B1, h.o2, h.o3, h.o4, h.o5, h.V1, h.J1, h.do0o4, h.do2o5, h.dV1B1, h.nKg0, h.nKo4, h.nKo5, h.nKV, h.nKJ, h.hbase⟩
theorem GrV.grown (h : GrV Pr base w wr g n m x y a0 a1 a2 a3 a4 a5 ls xs rs ys ss ev eg) (hgr : wr.grownBy W none) : GrV Pr base w W g n m x y a0 a1 a2 a3 a4 a5 ls xs rs ys ss ev eg := by
  have hk : ∀ v : Value, v.ownBlock = none ∨ v.ownBlock ≠ none := fun v => by cases v.ownBlock <;> simp
  exact ⟨h.K1.grown hgr, h.hg.grown hgr (by simp), h.o0.kept hgr (hk _), h.B1.kept hgr (by simp), h.o2.kept hgr (hk _), h.o3.kept hgr (hk _), h.o4.kept hgr (hk _), h.o5.kept hgr (hk _), h.fam.kept hgr (by simp), h.famG.kept hgr (by simp), h.do0o4, h.do2o5, h.dV1B1, h.nKg0, h.nKo4, h.nKo5, h.nKV, h.nKJ, h.ok⟩
theorem GrV.sub (h : GrV Pr base w wr g n m x y a0 a1 a2 a3 a4 a5 ls xs rs ys ss ev eg) (h1 : ∀ z ∈ ev' ++ (tagged ls ++ tagged xs), z ∈ ev ++ (tagged ls ++ tagged xs)) (h2 : ∀ z ∈ eg' ++ (taggedG rs ++ taggedG ys), z ∈ eg ++ (taggedG rs ++ taggedG ys)) : GrV Pr base w wr g n m x y a0 a1 a2 a3 a4 a5 ls xs rs ys ss ev' eg' :=
  ⟨h.K1, h.hg, h.o0, h.B1, h.o2, h.o3, h.o4, h.o5, h.fam.sub h1, h.famG.sub h2, h.do0o4, h.do2o5, fun z hz => h.dV1B1 z (h1 z hz), h.nKg0, h.nKo4, h.nKo5, fun z hz => h.nKV z (h1 z hz), fun z hz => h.nKJ z (h2 z hz), h.ok⟩
/-- One of the lists of bytes is lengthened. -/
theorem GrV.append (h : GrV Pr base w wr g n m x y a0 a1 a2 a3 a4 a5 ls xs rs ys ss ev eg) {t c : Nat} {A : Option Addr} {l l' : List UInt8} (hx : (t, l, A, c) ∈ ev ++ (tagged ls ++ tagged xs)) (hp : l ++ l' <+: FB t) {A1 : Option Addr} {c1 : Nat} (hG : Grew wr base A c l l' A1 c1 W) :
    GrV Pr base w W g n m x y a0 a1 a2 a3 a4 a5 ls xs rs ys ss ((t, l ++ l', A1, c1) :: ev) eg := by
  have hgr := hG.grown
  have hm := h.fam.all _ hx
  have hb : base ≤ wr.heap.size := Nat.le_trans h.ok h.size
  refine ⟨h.K1.kept_ob hgr (h.nKV _ hx), h.hg.kept_ob hm hgr (by decide), own_ob h.o0 hm hgr (by decide), h.B1.kept_apart hgr (h.dV1B1 _ hx), own_ob h.o2 hm hgr (by decide), own_ob h.o3 hm hgr (by decide), own_ob h.o4 hm hgr (by decide), own_ob h.o5 hm hgr (by decide), h.fam.append hx hp hG hb, h.famG.kept_ob hm hgr (by decide), h.do0o4, h.do2o5, fun z hz => ?_, h.nKg0, h.nKo4, h.nKo5, fun z hz => ?_, h.nKJ, h.ok⟩
  · rcases List.mem_cons.1 hz with rfl | hz
    · exact (apart_app (wr := wr) h.B1 (h.dV1B1 _ hx).symm hG).symm
    · exact h.dV1B1 z hz
  · rcases List.mem_cons.1 hz with rfl | hz
    · exact kx_ob h.K1 (h.nKV _ hx) hG
    · exact h.nKV z hz
/-- One of the lists of records is lengthened. -/
theorem GrV.appendG (h : GrV Pr base w wr g n m x y a0 a1 a2 a3 a4 a5 ls xs rs ys ss ev eg) {t k c j : Nat} {A : Option Addr} {cs news : List Value} (hx : (t, cs, k, A, c) ∈ eg ++ (taggedG rs ++ taggedG ys)) (hp : cs ++ news <+: FRof rs ss t) {A1 : Option Addr} {c1 : Nat} (hG : GrewG 25 12 wr base A c k cs news j A1 c1 W) :
    GrV Pr base w W g n m x y a0 a1 a2 a3 a4 a5 ls xs rs ys ss ev ((t, cs ++ news, k + j, A1, c1) :: eg) := by
  have hgr := hG.grown
  rw [← ownBlock_map A k c] at hgr
  have ho := h.famG.all _ hx
  unfold GA.val at ho
  simp only at ho
  have hn := h.nKJ _ hx
  have hnk : ∀ j, (Value.slice A k c).ownBlock = some j → ¬ Pr j := fun j hj => by
    obtain ⟨ad, hA, e⟩ := own_block_some hj
    rw [← e]
    exact hn ad hA
  refine ⟨h.K1.kept hgr hnk, h.hg.grown hgr (fun e => own_blk_ne ho h.hg (by decide) e.symm), h.o0.kept hgr (own_ty_ne h.o0 ho (by decide)), h.B1.kept hgr (h.B1.ne_own ho (by decide)), h.o2.kept hgr (own_ty_ne h.o2 ho (by decide)), h.o3.kept hgr (own_ty_ne h.o3 ho (by decide)), h.o4.kept hgr (own_ty_ne h.o4 ho (by decide)), h.o5.kept hgr (own_ty_ne h.o5 ho (by decide)),
    h.fam.kept hgr (h.fam.ne_own ho (by decide)), h.famG.append hx hp hG, h.do0o4, h.do2o5, h.dV1B1, h.nKg0, h.nKo4, h.nKo5, h.nKV, fun z hz => ?_, h.ok⟩
  rcases List.mem_cons.1 hz with rfl | hz
  · intro ad e
    rcases hG.lies with ⟨rfl, _⟩ | ⟨_, hnew⟩
    · exact hn ad e
    · intro hpp
      have := hnew ad e
      have := h.K1.lt _ hpp
      have := h.size
      omega
  · exact h.nKJ z hz
end
theorem tagged_snoc {xs : List BA} {z : BA} {n : Nat} (hn : xs.length = n) : tagged (xs ++ [z]) = tagged xs ++ [(n, z)] := by
  unfold tagged
  rw [List.zipIdx_append, List.map_append]
  simp [hn]
theorem taggedG_snoc {xs : List GA} {z : GA} {n : Nat} (hn : xs.length = n) : taggedG (xs ++ [z]) = taggedG xs ++ [(n, z)] := by
  unfold taggedG
  rw [List.zipIdx_append, List.map_append]
  simp [hn]
/-- What the longer lists of bytes are. -/
def Bx (ls xs : List BA) : Prop := ∀ (i : Nat) (z : BA), xs[i]? = some z → ∃ u : BA, ls[i]? = some u ∧ z.1 = MK i (2 * u.1.length + 70)
theorem Bx.snoc {ls xs : List BA} {x : Nat} (h : Bx ls xs) (hx : xs.length = x) {u : BA} (hu : ls[x]? = some u) {z : BA} (hz : z.1 = MK x (2 * u.1.length + 70)) : Bx ls (xs ++ [z]) := fun i y hy => by
  rcases Nat.lt_or_ge i x with hi | hi
  · rw [List.getElem?_append_left (by omega)] at hy
    exact h i y hy
  · rw [List.getElem?_append_right (by omega), hx] at hy
    obtain ⟨h1, h2⟩ := List.getElem?_eq_some_iff.1 hy
    simp at h1
    obtain rfl : i = x := by omega
    simp at h2
    subst h2
    exact ⟨u, hu, hz⟩
def Ry (rs ys : List GA) (ss : List Int) : Prop := ∀ (i : Nat) (z : GA) (s : Int), ys[i]? = some z → ss[i]? = some s → ∃ u : GA, rs[i]? = some u ∧ z.2.1 = 2 * u.2.1 + 20 ∧ SagaC z.1 z.2.1 s
theorem Ry.snoc {rs ys : List GA} {ss : List Int} {y : Nat} (h : Ry rs ys ss) (hy : ys.length = y) {u : GA} (hu : rs[y]? = some u) {z : GA} {s : Int} (hs : ss[y]? = some s) (h1 : z.2.1 = 2 * u.2.1 + 20) (h2 : SagaC z.1 z.2.1 s) : Ry rs (ys ++ [z]) ss := fun i q t hq ht => by
  rcases Nat.lt_or_ge i y with hi | hi
  · rw [List.getElem?_append_left (by omega)] at hq
    exact h i q t hq ht
  · rw [List.getElem?_append_right (by omega), hy] at hq
    obtain ⟨h3, h4⟩ := List.getElem?_eq_some_iff.1 hq
    simp at h3
    obtain rfl : i = y := by omega
    simp at h4
    subst h4
    rw [hs] at ht
    injection ht with ht
    subst ht
    exact ⟨u, hu, h1, h2⟩
end Go.Proofs.Ytikodgaomhmbmaa
