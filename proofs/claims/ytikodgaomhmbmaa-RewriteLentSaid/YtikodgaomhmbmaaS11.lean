/-
  What RewriteSplits keeps apart; the first half of its walk.
-/
import Derived.Test.YtikodgaomhmbmaaS10
set_option linter.unusedVariables false
set_option linter.unusedSimpArgs false
namespace Go.Proofs.Ytikodgaomhmbmaa
open Go.RowKit
attribute [local go_sem] Rec.size_ Rec.g0 Rec.g1 Rec.g2 Rec.g3 Rec.g4 Rec.g5 Rec.g6 Rec.g7 Rec.g8 Rec.g9 Rec.g10 Rec.g11 Rec.fold Rec.lit_fold

theorem refSameAll_n (l m : List RA) (n : Nat) (hn : l.length = n) (A B : Option Addr) (c d : Nat) (hlm : l.map (·.1) = m.map (·.1)) (hl : n ≤ 140737488351232) (hfit : ∀ y ∈ l, y.1.Fits) (w : World) (ha : RR w A l) (hb : RR w B m) :
    Calls Try.prog 8 #[.slice A n c, .slice B n d] w fun e w' => e = .returned (.bool true) ∧ Below w.heap.size w w' := by
  subst hn
  have := refSameAll_calls l m A B c d hlm hl hfit w ha hb
  rwa [map_len hlm.symm] at this
section
variable {W : World} {b b' b'' n m c size : Nat} {e : TypeId} {v : Value} {A A' : Option Addr} {xs cs cs' : List Value} {os os' : List RA} {qs : List BA}
theorem notLB_row (ho : W.ownsRow b e size v n xs) (hR : W.ownsRow b' 25 12 (.slice A m c) m cs) (hQ : OBs W b'' (bs os)) (d : v.ownBlock = none ∨ v.ownBlock ≠ (Value.slice A m c).ownBlock) (hne : 5 ≠ e) : ∀ k, v.ownBlock = some k → ¬ LB A os k := fun k hk hL => by
  rcases hL with ⟨ad, rfl, rfl⟩ | ⟨q, hq, ad, hA, rfl⟩
  · rcases d with d | d
    · rw [hk] at d; cases d
    · exact d (by rw [hk]; rfl)
  · exact hQ.ne_own ho hne q hq ad hA hk.symm
theorem notLB_obs {b0 : Nat} (hq : OBs W b0 qs) (hR : W.ownsRow b' 25 12 (.slice A m c) m cs) (d : AllApart qs (bs os)) : ∀ x ∈ qs, ∀ ad, x.2.1 = some ad → ¬ LB A os ad.block := fun x hx ad hA hL => by
  rcases hL with ⟨ad', rfl, e⟩ | ⟨q, hq', ad', hA', e⟩
  · exact hq.ne_own hR (by decide) x hx ad hA (by rw [← e]; rfl)
  · exact d x hx q hq' ad ad' hA hA' e.symm
theorem notLB_LB {m' c' b1 b2 b3 : Nat} (hR : W.ownsRow b1 25 12 (.slice A m c) m cs) (hQ : OBs W b2 (bs os)) (hR' : W.ownsRow b3 25 12 (.slice A' m' c') m' cs') (hQ' : OBs W b' (bs os')) (d : (Value.slice A m c).ownBlock = none ∨ (Value.slice A m c).ownBlock ≠ (Value.slice A' m' c').ownBlock) (dq : AllApart (bs os) (bs os')) : ∀ k, LB A os k → ¬ LB A' os' k := fun k hk hL => by
  rcases hk with ⟨ad, rfl, rfl⟩ | ⟨q, hq, ad, hA, rfl⟩
  · exact notLB_row hR hR' hQ' d (by decide) _ rfl hL
  · exact notLB_obs hQ hR' dq q hq ad hA hL
theorem LB_lt (hR : W.ownsRow b' 25 12 (.slice A m c) m cs) (hQ : OBs W b'' (bs os)) : ∀ k, LB A os k → k < W.heap.size := fun k hk => by
  rcases hk with ⟨ad, rfl, rfl⟩ | ⟨q, hq, ad, hA, rfl⟩
  · exact own_lt hR _ rfl
  · exact (hQ.lt q hq ad hA).2
theorem LB_ge {base : Nat} (hR : W.ownsRow base 25 12 (.slice A m c) m cs) (hQ : OBs W base (bs os)) : ∀ k, LB A os k → base ≤ k := fun k hk => by
  rcases hk with ⟨ad, rfl, rfl⟩ | ⟨q, hq, ad, hA, rfl⟩
  · exact own_base hR _ rfl
  · exact (hQ.lt q hq ad hA).1
end
/-- Marks that keep nothing. -/
theorem Mk.start {Pr : Nat → Prop} {base : Nat} {w : World} {g : Nat} (hg : Blk w g 37 #[.slice none 0 0, .slice none 0 0, .slice none 0 0, .slice none 0 0, .slice none 0 0, .slice none 0 0]) (hb : base ≤ w.heap.size) (hn : ¬ Pr g) : Mk Pr base w g 0 0 0 0 (none, 0) (none, 0) (none, 0) (none, 0) (none, 0) (none, 0) [] [] [] [] [] := by
  have hz : ∀ k, (Value.slice none 0 0).ownBlock = some k → ¬ Pr k := fun k h => by cases h
  have t0 : ∀ z : Nat × BA, z ∈ tagged [] ++ tagged [] → False := fun z hz => by simp [tagged] at hz
  have t1 : ∀ z : Nat × GA, z ∈ taggedG [] ++ taggedG [] → False := fun z hz => by simp [taggedG] at hz
  exact ⟨hg, own_nil _ _ _ _, OB.nil, own_nil _ _ _ _, own_nil _ _ _ _, own_nil _ _ _ _, own_nil _ _ _ _, ⟨fun z hz => (t0 z hz).elim, fun z hz => (t0 z hz).elim, fun z hz => (t0 z hz).elim⟩, ⟨fun z hz => (t1 z hz).elim, fun z hz => (t1 z hz).elim, fun z hz => (t1 z hz).elim⟩, .inl rfl, .inl rfl, fun z hz => (t0 z hz).elim, hn, hz, (fun ad h => by cases h), hz, hz, hz, hz, fun z hz => (t0 z hz).elim, fun z hz => (t1 z hz).elim, hb, rfl, rfl, rfl, rfl, rfl, Nat.le_refl _, Nat.le_refl _,
    (fun i z h => by simp at h), (fun i z h => by simp at h), (fun i z s h => by simp at h), (fun i z s h => by simp at h)⟩
/-- The saga is a number of 64 bits. -/
abbrev sagaWf (r : Rec) : Prop := (Lit.int .i64 r.Saga).wf = true
section
variable {Pr Qr : Nat → Prop} {base : Nat} {w w' : World} {g n m x y nl : Nat} {a0 a1 a2 a3 a4 a5 : AC} {A : Option Addr} {c : Nat} {os : List RA} {ls xs : List BA} {rs ys : List GA} {ss : List Int}
theorem Mk.kept {row : Option Nat} (h : Mk Pr base w g n m x y a0 a1 a2 a3 a4 a5 ls xs rs ys ss) (hgr : w.grownBy w' row) (hne : row = none) : Mk Pr base w' g n m x y a0 a1 a2 a3 a4 a5 ls xs rs ys ss :=
  h.next ⟨hgr.os, hgr.tape, hgr.output, hgr.size, fun i hi => hgr.block i hi (by rw [hne]; simp)⟩
theorem Mk.renext (h : Mk Pr base w g n m x y a0 a1 a2 a3 a4 a5 ls xs rs ys ss) (hb : Below w.heap.size w w') (hq : ∀ k, Qr k → Pr k ∨ w.heap.size ≤ k) : Mk Qr base w' g n m x y a0 a1 a2 a3 a4 a5 ls xs rs ys ss := (h.reno hq).next hb
theorem put_at (Pr : Nat → Prop) (s : Int) (hM : Mk (fun k => Pr k ∨ LB A os k) base w g n m x y a0 a1 a2 a3 a4 a5 ls xs rs ys ss) (hP : ∀ k, Pr k → k < w.heap.size) (hn : ∀ k, LB A os k → ¬ Pr k) (hl : os.length = nl) (hb1 : n + nl ≤ 100000000) (hb2 : m ≤ 1000000) (hs : ∀ z ∈ os, z.1.Data.length ≤ 1000000000)
    (ho : w.ownsRow base 25 12 (.slice A nl c) nl (recCells os)) (hQ : OBs w base (bs os)) :
    Calls Try.prog 9 #[.pointer (some ⟨g, 0, none⟩), .slice A nl c, .int .i64 s] w (PutSaid Pr base w g n m x y nl a4 a5 A c os ls xs rs ys ss s) :=
  put_calls Pr base w g n m x y nl a0 a1 a2 a3 a4 a5 A c os ls xs rs ys ss s hM hP hn hl hb1 hb2 hs ho hQ
theorem grow_at (hM : Mk Pr base w g n m x y a0 a1 a2 a3 a4 a5 ls xs rs ys ss) (hP : ∀ k, Pr k → k < w.heap.size) (hb1 : n ≤ 100000000) (hb2 : m ≤ 1000000) :
    Calls Try.prog 10 #[.pointer (some ⟨g, 0, none⟩)] w (GrowSaid Pr base w g n m a0 a1 a2 a3 ls rs ss) := grow_calls Pr base w g n m x y a0 a1 a2 a3 a4 a5 ls xs rs ys ss hM hP hb1 hb2
theorem hold_at (hM : Mk Pr base w g n m x y a0 a1 a2 a3 a4 a5 ls xs rs ys ss) (hP : ∀ k, Pr k → k < w.heap.size) (hb1 : n ≤ 100000000) (hb2 : m ≤ 1000000) :
    Calls Try.prog 11 #[.pointer (some ⟨g, 0, none⟩)] w (HoldSaid Pr base w g n m a0 a1 a2 a3 ls rs ss) := hold_calls Pr base w g n m x y a0 a1 a2 a3 a4 a5 ls xs rs ys ss hM hP hb1 hb2
/-- What is a list's own stays where the list is among what stays. -/
theorem KX.rowLB {b k c : Nat} {cs : List Value} (h : KX Pr w w') (ho : w.ownsRow b 25 12 (.slice A k c) k cs) (hp : ∀ j, LB A os j → Pr j) : w'.ownsRow b 25 12 (.slice A k c) k cs := h.row ho fun j hj => hp j (.inl (own_block_some hj))
theorem KX.obsLB {b : Nat} (h : KX Pr w w') (hQ : OBs w b (bs os)) (hp : ∀ j, LB A os j → Pr j) : OBs w' b (bs os) := h.obs hQ fun x hx ad e => hp _ (.inr ⟨x, hx, ad, e, rfl⟩)
end
/-- The record that ends the saga 1. -/
def endR : Rec := { Rec.zero with V := 1, Kind := 7, Saga := 1 }
theorem endR_live : (liveR [endR] [endR]).length = 0 := by decide
theorem endR_dead : (deadR [endR] [endR]).length = 1 := by decide
theorem endR_fits : endR.Fits := ⟨by decide, by decide⟩
theorem endR_fits1 : ∀ y ∈ [((endR, none, 0) : RA)], y.1.Fits := fun y hy => by obtain rfl := List.mem_singleton.1 hy; exact endR_fits
theorem endR_wf1 : ∀ y ∈ [((endR, none, 0) : RA)], (Lit.int .i64 y.1.Saga).wf = true := fun y hy => by obtain rfl := List.mem_singleton.1 hy; decide
theorem len_R {os : List RA} {l : List RA} {n : Nat} (h : os.map (·.1) = l.map (·.1)) (hn : l.length = n) : os.length = n := (map_len h).trans hn
theorem len_map {os : List RA} {R' : List Rec} {k : Nat} (h : os.map (·.1) = R') (hk : R'.length = k) : os.length = k := by rw [← hk, ← h, List.length_map]
theorem fits_map {os : List RA} {R' : List Rec} {p : Rec → Prop} (h : os.map (·.1) = R') (hp : ∀ r ∈ R', p r) : ∀ y ∈ os, p y.1 := fun y hy => hp _ (by rw [← h]; exact List.mem_map.2 ⟨y, hy, rfl⟩)
theorem RR.one {w : World} {g : Nat} {r : Rec} {A : Option Addr} {c : Nat} (h : Blk w g 25 (r.cells A c)) (hd : RB w A r.Data) : RR w (some ⟨g, 0, none⟩) [(r, A, c)] := by
  refine ⟨?_, fun x hx => by obtain rfl := List.mem_singleton.1 hx; exact hd⟩
  have := h.reads (size := 12) (n := 1) rfl
  simpa [recCells, RA.cs] using this
end Go.Proofs.Ytikodgaomhmbmaa
