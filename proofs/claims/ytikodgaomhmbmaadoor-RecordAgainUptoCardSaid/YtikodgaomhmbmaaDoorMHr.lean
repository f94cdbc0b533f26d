/-
  Rows of one's own that are written full and lengthened: the frame, families of slices; SameAll and Clone of the reference.
-/
import Derived.Test.YtikodgaomhmbmaaDoorD0
import Derived.Test.YtikodgaomhmbmaaDoorMDr
set_option linter.unusedVariables false
set_option linter.unusedSimpArgs false
namespace Go.Proofs.YtikodgaomhmbmaaDoor
open Go.RowKit

/-- Where both lists have an element they have the same. -/
def Agrees (m k : List UInt8) : Prop := ∀ (j : Nat) (x y : UInt8), m[j]? = some x → k[j]? = some y → x = y
theorem run_storeCells_ob (P : Program) (g o : Nat) (t : TypeId) (fz : Nat × Nat) : ∀ (vs : List Value) (i : Nat) (cur : Array Value) (w : World), w.heap[g]? = some (.cells cur t fz) → (fz.2 = 0 ∨ cur.size ≤ fz.1) → o + i + vs.length ≤ cur.size → (∀ v ∈ vs, v.oneCell' = true) →
    ∃ (w' : World) (cur' : Array Value), (storeCells ⟨g, o, none⟩ vs i).run P w = .ok () w' ∧ w'.heap[g]? = some (.cells cur' t fz) ∧ cur'.size = cur.size ∧ (∀ j, j < o + i → cur'[j]? = cur[j]?) ∧ (∀ j, j < vs.length → cur'[o + i + j]? = vs[j]?) ∧ (∀ j, o + i + vs.length ≤ j → cur'[j]? = cur[j]?) ∧ w.grownBy w' (some g)
  | [], i, cur, w, hg, _, _, _ => ⟨w, cur, by simp [storeCells], hg, rfl, fun _ _ => rfl, fun j hj => absurd hj (by simp), fun _ _ => rfl, World.grownBy.refl w _⟩
  | v :: rest, i, cur, w, hg, hz, hl, h1 => by
    have hi : o + i < cur.size := by simp at hl; omega
    have hadd : (⟨g, o, none⟩ : Addr).add i = ⟨g, o + i, none⟩ := by unfold Addr.add; split <;> simp_all
    have hcell : w.cell? ⟨g, o + i, none⟩ = some cur[o + i] := by simp [World.cell?, hg, hi]
    have hfro : w.frozen? ⟨g, o + i, none⟩ = false := by
      obtain ⟨lo, hi'⟩ := fz
      simp only [World.frozen?, hg, Bool.and_eq_false_iff, decide_eq_false_iff_not]
      simp only at hz
      omega
    have hst : (store ((⟨g, o, none⟩ : Addr).add i) v).run P w = .ok () (w.setCell ⟨g, o + i, none⟩ v) := by
      rw [hadd, run_store P w _ v _ (h1 v (by simp)), hcell]
      simp [hfro]
    have hh : (w.setCell ⟨g, o + i, none⟩ v).heap[g]? = some (.cells (cur.setIfInBounds (o + i) v) t fz) := by simp [World.setCell, Array.getElem?_modify, hg]
    obtain ⟨w', cur', hr, a1, a2, a3, a4, a5, a6⟩ := run_storeCells_ob P g o t fz rest (i + 1) (cur.setIfInBounds (o + i) v) (w.setCell ⟨g, o + i, none⟩ v) hh (by simpa using hz) (by simp at hl ⊢; omega) (fun x hx => h1 x (by simp [hx]))
    refine ⟨w', cur', ?_, a1, by simpa using a2, fun j hj => ?_, fun j hj => ?_, fun j hj => ?_, ?_⟩
    · simp only [storeCells, Sem.run_bind, hst, Result.andThen_ok, hr]
    · rw [a3 j (by omega), Array.getElem?_setIfInBounds]
      rw [if_neg (by omega)]
    · cases j with
      | zero =>
        rw [Nat.add_zero, a3 (o + i) (by omega), Array.getElem?_setIfInBounds]
        simp [hi]
      | succ j =>
        have := a4 j (by simpa using hj)
        rw [show o + i + (j + 1) = o + (i + 1) + j by omega, this]
        simp
    · have hj' : o + i + (rest.length + 1) ≤ j := by simpa using hj
      rw [a5 j (by omega), Array.getElem?_setIfInBounds, if_neg (by omega)]
    · have h0 : w.grownBy (w.setCell ⟨g, o + i, none⟩ v) (some g) := ⟨rfl, rfl, rfl, by simp [World.setCell], fun i _ hne => Below.heap_setCell _ _ _ _ (fun e => hne (by rw [e]))⟩
      exact h0.trans a6

/-- What an append onto such a row leaves. -/
structure Grew (w : World) (base : Nat) (A : Option Addr) (c : Nat) (l l' : List UInt8) (A1 : Option Addr) (c1 : Nat) (w1 : World) : Prop where
  made : OB w1 base A1 c1 (l ++ l')
  old : OB w1 base A c l
  grown : w.grownBy w1 (A.map (·.block))
  lies : (A1 = A ∧ c1 = c) ∨ (w.grownBy w1 none ∧ ∀ ad, A1 = some ad → w.heap.size ≤ ad.block)
  also : ∀ m, OB w base A c m → Agrees m (l ++ l') → OB w1 base A c m

set_option maxRecDepth 100000 in
theorem run_append_ob (w : World) {base : Nat} {A : Option Addr} {c : Nat} {l : List UInt8} (h : OB w base A c l) (hbase : base ≤ w.heap.size) (ad : Addr) (l' : List UInt8) (c' : Nat) (hnews : ∀ j u, (u8s l')[j]? = some u → w.cell? (ad.add j) = some u) (ty : TypeId) (hb : l.length + l'.length ≤ 140737488355328) :
    ∃ A1 c1 w1, (Builtin.append_ #[25, 25] ty #[.slice A l.length c, .slice (some ad) l'.length c']).run Tryd.prog w = .ok (.slice A1 (l.length + l'.length) c1) w1 ∧ Grew w base A c l l' A1 c1 w1 := by
  obtain ⟨i0, hi, hz0, hz1, hz2⟩ := info_parts info_u8
  have hut := Tryd.underlying25
  have h0 := h
  rcases h with ⟨rfl, rfl, rfl⟩ | ⟨g, cur, fz, rfl, hbg, hh, hfz, hlc, hcs, ht⟩
  · obtain ⟨v', w1, hrun, ho, hg, _, hat⟩ := run_append_own_at (P := Tryd.prog) w w.heap.size 25 ty 5 i0 (.int .u8 0) 1 1 hut hi hz0 hz1 hz2 rfl (by decide) (.slice none 0 0) 0 [] (own_nil w _ _ _) ad l'.length c' (u8s l') (by simp [u8s]) hnews u8s_one (by simp only [maxLen]; simp at hb; omega) (by simpa using hb) (Nat.le_refl _)
    obtain ⟨A1, c1, rfl⟩ := own_slice ho
    have hg' : w.grownBy w1 none := hg
    have hO : OB w1 w.heap.size A1 c1 l' := OB.of_own (by simpa using ho)
    refine ⟨A1, c1, w1, by simpa using hrun, ⟨by simpa using hO.mono hbase, OB.nil, hg', .inr ⟨hg', fun ad' e => (hO.lt e).1⟩, fun m hm _ => hm.kept hg' (by simp)⟩⟩
  · by_cases hroom : l.length + l'.length ≤ c
    · have hf := run_firstCells_some (P := Tryd.prog) w i0.size l'.length ad l'.length c' (u8s l') (by simp [hz1, u8s]) hnews
      obtain ⟨w1, cur1, hst, a1, a2, a3, a4, a5, a6⟩ := run_storeCells_ob Tryd.prog g l.length 5 fz (u8s l') 0 cur w hh hfz (by simp [u8s]; omega) u8s_one
      have hcur : ∀ j, j < l.length → cur[j]? = (u8s l)[j]? := fun j hj => by rw [← ht, List.getElem?_take, if_pos hj]; simp
      have hnew : cur1.toList.take (l ++ l').length = u8s (l ++ l') := by
        apply List.ext_getElem?
        intro j
        rw [List.getElem?_take, u8s_append]
        by_cases hj : j < l.length
        · rw [if_pos (by simp; omega), List.getElem?_append_left (by simpa [u8s] using hj), Array.getElem?_toList, a3 j (by omega), hcur j hj]
        · rw [List.getElem?_append_right (by simp [u8s]; omega)]
          by_cases hj2 : j < l.length + l'.length
          · rw [if_pos (by simpa using hj2), Array.getElem?_toList]
            have := a4 (j - l.length) (by simp [u8s]; omega)
            rw [show l.length + 0 + (j - l.length) = j by omega] at this
            rw [this, u8s_length]
          · rw [if_neg (by simpa using hj2), List.getElem?_eq_none (by simp [u8s]; omega)]
      refine ⟨some ⟨g, 0, none⟩, c, w1, ?_, ⟨.inr ⟨g, cur1, fz, rfl, hbg, a1, by rwa [a2], by simpa using hroom, by omega, hnew⟩, .inr ⟨g, cur1, fz, rfl, hbg, a1, by rwa [a2], hlc, by omega, ?_⟩, a6, .inl ⟨rfl, rfl⟩, ?_⟩⟩
      · simp [Builtin.append_, run_underlying hut, sizeOf, typeInfo, hi, hz1, Builtin.lenOf, hroom, hz1 ▸ hf, Addr.add_lit, hst]
      · rw [← ht]
        apply List.ext_getElem?
        intro j
        rw [List.getElem?_take, List.getElem?_take]
        by_cases hj : j < l.length
        · rw [if_pos hj, if_pos hj, Array.getElem?_toList, Array.getElem?_toList, a3 j (by omega)]
        · rw [if_neg hj, if_neg hj]
      · intro m hm hag
        rcases hm with ⟨e, _⟩ | ⟨g', cur', fz', e, _, hh', hfz', hmc, _, htm⟩
        · cases e
        · injection e with e
          injection e with e
          subst e
          rw [hh] at hh'
          injection hh' with hh'
          injection hh' with e1 _ e3
          subst e1
          subst e3
          refine .inr ⟨g, cur1, fz, rfl, hbg, a1, by rwa [a2], hmc, by omega, ?_⟩
          apply List.ext_getElem?
          intro j
          rw [List.getElem?_take]
          by_cases hj : j < m.length
          · rw [if_pos hj, Array.getElem?_toList]
            have hmj : cur[j]? = (u8s m)[j]? := by rw [← htm, List.getElem?_take, if_pos hj]; simp
            rcases Nat.lt_or_ge j (l ++ l').length with hjl | hjl
            · have e1 : cur1[j]? = (u8s (l ++ l'))[j]? := by rw [← hnew, List.getElem?_take, if_pos hjl]; simp
              rw [e1, u8s_get hjl, u8s_get hj]
              congr 2
              rw [hag j m[j] (l ++ l')[j] (List.getElem?_eq_getElem hj) (List.getElem?_eq_getElem hjl)]
            · rw [a5 j (by simp [u8s] at hjl ⊢; omega), hmj]
          · rw [if_neg hj, List.getElem?_eq_none (by simpa [u8s] using hj)]
    · have hr := run_append_grow (P := Tryd.prog) w 25 ty 5 i0 (.int .u8 0) hut hi hz0 ⟨g, 0, none⟩ l.length c (u8s l) (by simp [hz1, u8s]) (fun j u hu => h0.cell rfl hu) ad l'.length c' (u8s l') (by simp [hz1, u8s]) hnews (by omega) (by omega) (by rw [hz2]; exact growslice_fits (by omega) (by omega))
      have hge := grownCap_ge w (l.length + l'.length) c 5
      have hcm2 : grownCap w (l.length + l'.length) c 5 ≤ maxLen := grownCap_le_maxLen w (l.length + l'.length) c 5 (by simp only [maxLen]; omega)
      generalize grownCap w (l.length + l'.length) c 5 = c1 at hr hge hcm2
      have hgr : ∀ row, w.grownBy (w.drew.alloc (.cells ((u8s l).toArray ++ (u8s l').toArray ++ Builtin.zeroCells (Value.int .u8 0).cells (c1 - (l.length + l'.length))) 5)) row := fun row => ⟨rfl, rfl, rfl, by simp, fun k hk _ => Below.heap_alloc w.drew _ k hk⟩
      refine ⟨some ⟨w.heap.size, 0, none⟩, c1, _, hr, ⟨.inr ⟨w.heap.size, _, (0, 0), rfl, hbase, heap_alloc_new w.drew _, .inl rfl, by simpa using hge, ?_, ?_⟩, h0.kept (hgr none) (by simp), hgr _, .inr ⟨hgr none, fun ad' e => by injection e with e; subst e; exact Nat.le_refl _⟩, fun m hm _ => hm.kept (hgr none) (by simp)⟩⟩
      · have hz1' : (Value.int IntKind.u8 0).cells.size = 1 := rfl
        simp only [Array.size_append, List.size_toArray, size_zeroCells, hz1', u8s_length]
        omega
      · simp only [Array.toList_append, u8s_append, List.append_assoc]
        rw [← List.append_assoc, ← u8s_append]
        have : (l ++ l').length = (u8s (l ++ l')).length := by simp [u8s]
        rw [this]
        exact List.take_left

section
variable {ops : Array Oper} {rest : List Oper} {o : Oper} {a : Act} {Q : Exit → Act → World → Prop} {W : World}
/-- append onto a row of bytes of one's own. -/
theorem ev_append_ob (hgd : o.guard = none) {s x : Operand} (ho : o.op = .call { callee := .builtin .append, args := #[s, x], argTypes := #[25, 25] })
    {base n : Nat} {A : Option Addr} {c : Nat} {l : List UInt8} (hs : a.eval s = .slice A n c) (hn : l.length = n) (h : OB W base A c l) (hbase : base ≤ W.heap.size) {ad : Addr} {l' : List UInt8} {m c' : Nat} (hx : a.eval x = .slice (some ad) m c') (hm : l'.length = m)
    (hnews : ∀ j u, (u8s l')[j]? = some u → W.cell? (ad.add j) = some u) (hb : n + m ≤ 140737488355328)
    (hk : ∀ A1 c1 w1, Grew W base A c l l' A1 c1 w1 → wpList Tryd.prog ops Q rest (a.put o.dst (.slice A1 (n + m) c1)) w1) : wpList Tryd.prog ops Q (o :: rest) a W := by
  subst hm
  subst hn
  obtain ⟨A1, c1, w1, hrun, hG⟩ := run_append_ob W h hbase ad l' c' hnews o.type hb
  refine ev_run hgd (w1 := w1) (v := .slice A1 (l.length + l'.length) c1) ?_ (hk A1 c1 w1 hG)
  simp only [execOp, ho, resolve, invoke, builtin, Sem.run_bind, Sem.run_pure, Result.andThen_ok, List.map_toArray, List.map_cons, List.map_nil, hs, hx, hrun]
end
/-! ### A store into a row of one's own, its elements being of any size -/
theorem own_setN {w : World} {base g n c k size : Nat} {e : TypeId} {xs : List Value} (h : w.ownsRow base e size (.slice (some ⟨g, 0, none⟩) n c) n xs) (hk : k < n * size) (v : Value) :
    (w.setCell ⟨g, k, none⟩ v).ownsRow base e size (.slice (some ⟨g, 0, none⟩) n c) n (xs.set k v) ∧ w.grownBy (w.setCell ⟨g, k, none⟩ v) (some g) := by
  refine ⟨⟨by rw [List.length_set]; exact h.1, ?_⟩, rfl, rfl, rfl, by simp [World.setCell], fun i _ hne => Below.heap_setCell _ _ _ _ (fun e => hne (by rw [e]))⟩
  rcases h.2 with ⟨h2, _⟩ | ⟨g', cap, cur, hv, hb, hh, h1, h2, h3, h4⟩
  · cases h2
  · injection hv with ha _ hc
    injection ha with ha
    injection ha with hg
    subst hg
    subst hc
    refine .inr ⟨g, c, cur.setIfInBounds k v, rfl, hb, ?_, h1, h2, by simpa using h3, ?_⟩
    · simp [World.setCell, Array.getElem?_modify, hh]
    · rw [← h4, Array.toList_setIfInBounds, List.take_set]
theorem own_cellN {w : World} {base g n c size : Nat} {e : TypeId} {xs : List Value} (h : w.ownsRow base e size (.slice (some ⟨g, 0, none⟩) n c) n xs) (k : Nat) {u : Value} (hu : xs[k]? = some u) : w.cell? ⟨g, k, none⟩ = some u := by
  have := h.cells (g := g) rfl k _ hu
  have e : (⟨g, 0, none⟩ : Addr).add k = ⟨g, k, none⟩ := by unfold Addr.add; split <;> simp_all
  rwa [e] at this
section
variable {P : Program} {ops : Array Oper} {rest : List Oper} {o : Oper} {a : Act} {Q : Exit → Act → World → Prop} {W : World}
theorem ev_store_ownN (hgd : o.guard = none) (hN : o.dst = none) {t : TypeId} {p x : Operand} (ho : o.op = .store t p x) {base g n c k size : Nat} {e : TypeId} {xs : List Value} (hown : W.ownsRow base e size (.slice (some ⟨g, 0, none⟩) n c) n xs) (hk : k < n * size) {v : Value}
    (hp : a.eval p = .pointer (some ⟨g, k, none⟩)) (hx : a.eval x = v) (h1 : v.oneCell' = true) (hi : (P.info? t).map (·.size) = some 1)
    (h : ∀ w1, w1.ownsRow base e size (.slice (some ⟨g, 0, none⟩) n c) n (xs.set k v) → W.grownBy w1 (Value.slice (some ⟨g, 0, none⟩) n c).ownBlock → wpList P ops Q rest a w1) : wpList P ops Q (o :: rest) a W := by
  obtain ⟨j, hj, hs⟩ := Option.map_eq_some_iff.1 hi
  have hv : v.cells = #[v] := by cases v <;> first | rfl | cases h1
  obtain ⟨h2, h3⟩ := own_setN hown hk v
  refine ev_skip hgd hN (w1 := W.setCell ⟨g, k, none⟩ v) ?_ (h _ h2 h3)
  have hc : ∃ u, W.cell? ⟨g, k, none⟩ = some u := ⟨_, own_cellN hown k (List.getElem?_eq_getElem (by rw [hown.1]; exact hk))⟩
  obtain ⟨u, hc⟩ := hc
  have hst : (storeVar t ⟨g, k, none⟩ v).run P W = .ok () (W.setCell ⟨g, k, none⟩ v) := by
    have h0 : (⟨g, k, none⟩ : Addr).add 0 = ⟨g, k, none⟩ := rfl
    have hst1 : (store ⟨g, k, none⟩ v).run P W = .ok () (W.setCell ⟨g, k, none⟩ v) := by
      rw [run_store P W _ v .plain h1]
      simp [stored, hc, own_frozen hown]
    simp [storeVar, sizeOf, typeInfo, hj, hs, hv, storeCells, h0, hst1]
  simp [execOp, ho, hp, hx, Instr.storeAt, Instr.sureAddr, hst]
end
theorem RA.cs_len (x : RA) : x.cs.length = 12 := rfl
theorem recCells_set : ∀ {os : List RA} {i : Nat} {x x' : RA} (f : Nat) (v : Value), os[i]? = some x → x'.cs = x.cs.set f v → f < 12 → recCells (os.set i x') = (recCells os).set (i * 12 + f) v
  | [], i, x, x', f, v, h, _, _ => by simp at h
  | y :: os, 0, x, x', f, v, h, hc, hf => by
    simp at h
    subst h
    have e1 : recCells (y :: os) = y.cs ++ recCells os := by simp [recCells]
    have e2 : recCells ((y :: os).set 0 x') = x'.cs ++ recCells os := by simp [recCells]
    rw [e1, e2, hc, Nat.zero_mul, Nat.zero_add, List.set_append_left _ _ (by rw [RA.cs_len]; exact hf)]
  | y :: os, i + 1, x, x', f, v, h, hc, hf => by
    have ih := recCells_set (os := os) (i := i) f v (by simpa using h) hc hf
    have e1 : recCells (y :: os) = y.cs ++ recCells os := by simp [recCells]
    have e2 : recCells ((y :: os).set (i + 1) x') = y.cs ++ recCells (os.set i x') := by simp [recCells]
    rw [e1, e2, ih, List.set_append_right _ _ (by rw [RA.cs_len]; omega), RA.cs_len]
    congr 2
    omega
end Go.Proofs.YtikodgaomhmbmaaDoor
namespace Go.Proofs.YtikodgaomhmbmaaDoor
open Go.RowKit

/-! ### A frame: all that was there stays but for these rows' blocks -/
structure Spared (w w' : World) (os : List BA) : Prop where
  os_ : w'.os = w.os
  tape : w'.tape = w.tape
  output : w'.output = w.output
  size : w.heap.size ≤ w'.heap.size
  block : ∀ k, k < w.heap.size → (∀ x ∈ os, ∀ ad, x.2.1 = some ad → ad.block ≠ k) → w'.heap[k]? = w.heap[k]?
section
variable {w w' w'' : World} {os : List BA}
theorem Spared.refl : Spared w w os := ⟨rfl, rfl, rfl, Nat.le_refl _, fun _ _ _ => rfl⟩
/-- A step that writes one of the rows, or what is new. -/
theorem Spared.step (h : Spared w w' os) {A : Option Addr} (hg : w'.grownBy w'' (A.map (·.block))) (hA : ∀ ad, A = some ad → w.heap.size ≤ ad.block ∨ ∃ x ∈ os, x.2.1 = A) : Spared w w'' os := by
  refine ⟨hg.os.trans h.os_, hg.tape.trans h.tape, hg.output.trans h.output, Nat.le_trans h.size hg.size, fun k hk hne => ?_⟩
  rw [hg.block k (Nat.lt_of_lt_of_le hk h.size) ?_]
  · exact h.block k hk hne
  · intro e
    cases hA' : A with
    | none => rw [hA'] at e; cases e
    | some ad =>
      rw [hA'] at e
      injection e with e
      have e : k = ad.block := e
      rcases hA ad hA' with hn | ⟨x, hx, hxA⟩
      · omega
      · exact hne x hx ad (hxA.trans hA') e.symm
theorem Spared.grown (h : Spared w w' os) (hg : w'.grownBy w'' none) : Spared w w'' os := h.step (A := none) hg (fun ad e => by cases e)
theorem Spared.next (h : Spared w w' os) (hb : Below w'.heap.size w' w'') : Spared w w'' os := h.grown (grown_of_below hb)
/-- Written to blocks that are newer than the begin. -/
theorem Spared.own (h : Spared w w' os) {row : Option Nat} (hg : w'.grownBy w'' row) (hr : ∀ k, row = some k → w.heap.size ≤ k) : Spared w w'' os := by
  refine ⟨hg.os.trans h.os_, hg.tape.trans h.tape, hg.output.trans h.output, Nat.le_trans h.size hg.size, fun k hk hne => ?_⟩
  rw [hg.block k (Nat.lt_of_lt_of_le hk h.size) (fun e => by have := hr k e.symm; omega)]
  exact h.block k hk hne
theorem Spared.below {N : Nat} (h : Spared w w' os) {base : Nat} (hQ : OBs w base os) (hN : N ≤ base) (hw : N ≤ w.heap.size) : Below N w w' :=
  ⟨h.os_, h.tape, h.output, h.size, fun i hi => h.block i (by omega) fun x hx ad e => by have := (hQ.lt x hx ad e).1; omega⟩
theorem Spared.keeps (h : Spared w w' os) {base : Nat} (hQ : OBs w base os) {N : Nat} {v : World} (hb : Below N v w) (hN : N ≤ base) (hw : N ≤ w.heap.size) : Below N v w' := hb.trans (h.below hQ hN hw)
theorem Blk.spared {g : Nat} {t : TypeId} {cs : Array Value} (hg : Blk w g t cs) (h : Spared w w' os) {base : Nat} (hQ : OBs w base os) (hne : 5 ≠ t) : Blk w' g t cs :=
  (h.block g hg.lt fun x hx ad e => fun e2 => hQ.ne_blk hg hne x hx ad e (by rw [e2])).trans hg
theorem own_spared {base b size n : Nat} {e : TypeId} {v : Value} {xs : List Value} (ho : w.ownsRow b e size v n xs) (h : Spared w w' os) (hQ : OBs w base os) (hne : 5 ≠ e) : w'.ownsRow b e size v n xs := by
  refine ⟨ho.1, ?_⟩
  rcases ho.2 with h2 | ⟨g, cap, cur, hv, hb, hg, r⟩
  · exact .inl h2
  · refine .inr ⟨g, cap, cur, hv, hb, ?_, r⟩
    exact (Blk.spared (g := g) (t := e) (cs := cur) hg h hQ hne)
theorem RU.spared {A : Option Addr} {l : List UInt8} (hr : RU w A l) (h : Spared w w' os) (hd : ∀ x ∈ os, Apart x.2.1 A) : RU w' A l := by
  have hk : ∀ ad, A = some ad → ad.block < w.heap.size → w'.heap[ad.block]? = w.heap[ad.block]? := fun ad e hlt => h.block _ hlt fun x hx ad' e' => hd x hx ad' ad e' e
  refine ⟨⟨hr.rb.1, fun hn => ?_⟩, fun hl => ?_⟩
  · obtain ⟨ad, e, hb, hc⟩ := hr.rb.2 hn
    refine ⟨ad, e, Nat.lt_of_lt_of_le hb h.size, fun j u hu => ?_⟩
    rw [← hc j u hu]
    have e2 : (ad.add j).block = ad.block := block_of_add ad j
    exact World.cell?_of_block (by rw [e2]; exact hk ad e hb)
  · obtain ⟨ad, cs, fr, e, hh⟩ := hr.ty hl
    exact ⟨ad, cs, fr, e, (hk ad e (Array.getElem?_eq_some_iff.1 hh).1).trans hh⟩
theorem OB.spared {base c : Nat} {A : Option Addr} {l : List UInt8} (hB : OB w base A c l) (h : Spared w w' os) (hd : ∀ x ∈ os, Apart x.2.1 A) : OB w' base A c l := by
  rcases hB with hB | ⟨g, cur, fz, ha, hb, hg, r⟩
  · exact .inl hB
  · exact .inr ⟨g, cur, fz, ha, hb, (h.block g (Array.getElem?_eq_some_iff.1 hg).1 fun x hx ad' e' => hd x hx ad' _ e' ha).trans hg, r⟩
theorem OBs.spared {base : Nat} {qs : List BA} (hQ : OBs w base qs) (h : Spared w w' os) (hd : ∀ x ∈ os, ∀ y ∈ qs, Apart x.2.1 y.2.1) : OBs w' base qs := ⟨fun y hy => (hQ.all y hy).spared h (fun x hx => hd x hx y hy), hQ.apart⟩
end
/-! ### Families -/
/-- Slices of one's own, each with a mark t and a begin of what F says of that mark; two of them lie apart, or they are of one mark and begin at one place. -/
structure Fam (F : Nat → List UInt8) (w : World) (base : Nat) (os : List (Nat × BA)) : Prop where
  all : ∀ x ∈ os, OB w base x.2.2.1 x.2.2.2 x.2.1
  pre : ∀ x ∈ os, x.2.1 <+: F x.1
  pair : ∀ x ∈ os, ∀ y ∈ os, Apart x.2.2.1 y.2.2.1 ∨ (x.1 = y.1 ∧ x.2.2 = y.2.2)
section
variable {F : Nat → List UInt8} {w w' : World} {base : Nat} {os : List (Nat × BA)}
theorem Fam.sub {qs : List (Nat × BA)} (h : Fam F w base os) (hs : ∀ x ∈ qs, x ∈ os) : Fam F w base qs := ⟨fun x hx => h.all x (hs x hx), fun x hx => h.pre x (hs x hx), fun x hx y hy => h.pair x (hs x hx) y (hs y hy)⟩
theorem Fam.kept {row : Option Nat} (h : Fam F w base os) (hgr : w.grownBy w' row) (hne : ∀ x ∈ os, ∀ ad, x.2.2.1 = some ad → some ad.block ≠ row) : Fam F w' base os := ⟨fun x hx => (h.all x hx).kept hgr (hne x hx), h.pre, h.pair⟩
theorem Fam.next (h : Fam F w base os) (hb : Below w.heap.size w w') : Fam F w' base os := h.kept (grown_of_below hb) (by simp)
theorem Fam.ne_own {base' size n : Nat} {e : TypeId} {v : Value} {xs : List Value} (h : Fam F w base os) (ho : w.ownsRow base' e size v n xs) (hne : 5 ≠ e) : ∀ x ∈ os, ∀ ad, x.2.2.1 = some ad → some ad.block ≠ v.ownBlock := fun x hx => (h.all x hx).ne_own ho hne
theorem Fam.ne_blk {g : Nat} {t : TypeId} {cs : Array Value} (h : Fam F w base os) (hg : Blk w g t cs) (hne : 5 ≠ t) : ∀ x ∈ os, ∀ ad, x.2.2.1 = some ad → some ad.block ≠ some g := fun x hx => (h.all x hx).ne_blk hg hne
theorem agrees_of_prefix {m k f : List UInt8} (h1 : m <+: f) (h2 : k <+: f) : Agrees m k := by
  intro j x y hx hy
  obtain ⟨t1, rfl⟩ := h1
  obtain ⟨t2, e⟩ := h2
  have h1 : (m ++ t1)[j]? = some x := by rw [List.getElem?_append_left (List.getElem?_eq_some_iff.1 hx).1]; exact hx
  have h2 : (k ++ t2)[j]? = some y := by rw [List.getElem?_append_left (List.getElem?_eq_some_iff.1 hy).1]; exact hy
  rw [e, h1] at h2
  injection h2
theorem Fam.spared {l : List BA} (h : Fam F w base os) (hs : Spared w w' l) (hd : ∀ x ∈ l, ∀ y ∈ os, Apart x.2.1 y.2.2.1) : Fam F w' base os := ⟨fun y hy => (h.all y hy).spared hs (fun x hx => hd x hx y hy), h.pre, h.pair⟩
theorem Fam.aparts_new {base' : Nat} {qs : List BA} (h : Fam F w base os) (h' : OBs w' base' qs) (hb : w.heap.size ≤ base') : ∀ y ∈ qs, ∀ x ∈ os, Apart y.2.1 x.2.2.1 := fun y hy x hx => ((h.all x hx).apart_new (h'.all y hy) hb).symm
/-- One of them is lengthened by what comes next of its mark. -/
theorem Fam.append (h : Fam F w base os) {t c : Nat} {A : Option Addr} {l l' : List UInt8} (hx : (t, l, A, c) ∈ os) (hp : l ++ l' <+: F t) {A1 : Option Addr} {c1 : Nat} {w1 : World} (hG : Grew w base A c l l' A1 c1 w1) (hbase : base ≤ w.heap.size) :
    Fam F w1 base ((t, l ++ l', A1, c1) :: os) := by
  have hold : ∀ y ∈ os, OB w1 base y.2.2.1 y.2.2.2 y.2.1 := fun y hy => by
    rcases h.pair y hy _ hx with hap | ⟨ht, hloc⟩
    · refine (h.all y hy).kept hG.grown fun ad e e2 => ?_
      cases hA : A with
      | none => rw [hA] at e2; cases e2
      | some ad' =>
        rw [hA] at e2
        injection e2 with e2
        exact hap ad ad' e hA e2
    · have e1 : y.2.2.1 = A := congrArg Prod.fst hloc
      have e2 : y.2.2.2 = c := congrArg Prod.snd hloc
      have hy' := h.all y hy
      rw [e1, e2] at hy' ⊢
      exact hG.also _ hy' (agrees_of_prefix (by have := h.pre y hy; rwa [show y.1 = t from ht] at this) hp)
  have hrel : ∀ y ∈ os, Apart y.2.2.1 A1 ∨ (y.1 = t ∧ y.2.2 = (A1, c1)) := fun y hy => by
    rcases hG.lies with ⟨rfl, rfl⟩ | ⟨_, hnew⟩
    · exact h.pair y hy _ hx
    · refine .inl fun a b ha hb e => ?_
      have h1 := ((h.all y hy).lt ha).2
      have h2 := hnew b hb
      omega
  refine ⟨fun y hy => ?_, fun y hy => ?_, fun x hx y hy => ?_⟩
  · rcases List.mem_cons.1 hy with rfl | hy
    · exact hG.made
    · exact hold y hy
  · rcases List.mem_cons.1 hy with rfl | hy
    · exact hp
    · exact h.pre y hy
  · rcases List.mem_cons.1 hx with rfl | hx <;> rcases List.mem_cons.1 hy with rfl | hy
    · exact .inr ⟨rfl, rfl⟩
    · rcases hrel y hy with h1 | ⟨h1, h2⟩
      · exact .inl h1.symm
      · exact .inr ⟨h1.symm, h2.symm⟩
    · exact hrel x hx
    · exact h.pair x hx y hy
end
/-- Rows that lie apart, each with its place as its mark. -/
def tagged (os : List BA) : List (Nat × BA) := os.zipIdx.map fun x => (x.2, x.1)
theorem tagged_mem {os : List BA} {x : Nat × BA} : x ∈ tagged os ↔ os[x.1]? = some x.2 := by
  unfold tagged
  rw [List.mem_map]
  constructor
  · rintro ⟨⟨y, i⟩, hy, rfl⟩
    rw [List.mem_zipIdx_iff_getElem?] at hy
    simpa using hy
  · intro h
    exact ⟨(x.2, x.1), by rw [List.mem_zipIdx_iff_getElem?]; simpa using h, rfl⟩
theorem Fam.of_rows {F : Nat → List UInt8} {w : World} {base : Nat} {os : List BA} (h : OBs w base os) (hp : ∀ i x, os[i]? = some x → x.1 <+: F i) : Fam F w base (tagged os) := by
  refine ⟨fun x hx => h.all _ (List.mem_of_getElem? (tagged_mem.1 hx)), fun x hx => hp _ _ (tagged_mem.1 hx), fun x hx y hy => ?_⟩
  by_cases e : x.1 = y.1
  · have h1 := tagged_mem.1 hx
    have h2 := tagged_mem.1 hy
    rw [e, h2] at h1
    injection h1 with h1
    exact .inr ⟨e, by rw [h1]⟩
  · exact .inl (h.others (tagged_mem.1 hy) (tagged_mem.1 hx) e)
end Go.Proofs.YtikodgaomhmbmaaDoor
namespace Go.Proofs.YtikodgaomhmbmaaDoor
open Go.RowKit
attribute [local go_sem] Rec.size_ Rec.g0 Rec.g1 Rec.g2 Rec.g3 Rec.g4 Rec.g5 Rec.g6 Rec.g7 Rec.g8 Rec.g9 Rec.g10 Rec.g11 Rec.fold Rec.lit_fold

/-- A family that grew out of the rows l, whose blocks alone have been written. -/
structure Fill (F : Nat → List UInt8) (w0 : World) (l : List BA) (base : Nat) (w : World) (os : List (Nat × BA)) : Prop where
  fam : Fam F w base os
  sp : Spared w0 w l
  loc : ∀ x ∈ os, ∀ ad, x.2.2.1 = some ad → w0.heap.size ≤ ad.block ∨ ∃ y ∈ l, y.2.1 = x.2.2.1
  ok : base ≤ w0.heap.size
section
variable {F : Nat → List UInt8} {w0 w w' : World} {l : List BA} {base : Nat} {os : List (Nat × BA)}
theorem Fill.size (h : Fill F w0 l base w os) : w0.heap.size ≤ w.heap.size := h.sp.size
theorem Fill.kept {row : Option Nat} (h : Fill F w0 l base w os) (hgr : w.grownBy w' row) (hne : (∀ x ∈ os, ∀ ad, x.2.2.1 = some ad → some ad.block ≠ row) ∧ ∀ k, row = some k → w0.heap.size ≤ k) : Fill F w0 l base w' os := ⟨h.fam.kept hgr hne.1, h.sp.own hgr hne.2, h.loc, h.ok⟩
theorem Fill.grown (h : Fill F w0 l base w os) (hgr : w.grownBy w' none) : Fill F w0 l base w' os := h.kept hgr ⟨fun x hx ad e e2 => (by cases e2), fun k e => (by cases e)⟩
theorem Fill.next (h : Fill F w0 l base w os) (hb : Below w.heap.size w w') : Fill F w0 l base w' os := h.kept (grown_of_below hb) (by simp)
theorem Fill.ne_own {e : TypeId} {size n : Nat} {v : Value} {xs : List Value} (h : Fill F w0 l base w os) (ho : w.ownsRow w0.heap.size e size v n xs) (hne : 5 ≠ e) : (∀ x ∈ os, ∀ ad, x.2.2.1 = some ad → some ad.block ≠ v.ownBlock) ∧ ∀ k, v.ownBlock = some k → w0.heap.size ≤ k := ⟨h.fam.ne_own ho hne, fun k e => own_base ho k e⟩
theorem Fill.ne_blk {g : Nat} {t : TypeId} {cs : Array Value} (h : Fill F w0 l base w os) (hg : Blk w g t cs) (hz : w0.heap.size ≤ g) (hne : 5 ≠ t) : (∀ x ∈ os, ∀ ad, x.2.2.1 = some ad → some ad.block ≠ some g) ∧ ∀ k, some g = some k → w0.heap.size ≤ k := ⟨h.fam.ne_blk hg hne, fun k e => by injection e with e; omega⟩
theorem Fill.sub {qs : List (Nat × BA)} (h : Fill F w0 l base w os) (hs : ∀ x ∈ qs, x ∈ os) : Fill F w0 l base w qs := ⟨h.fam.sub hs, h.sp, fun x hx => h.loc x (hs x hx), h.ok⟩
theorem Fill.append (h : Fill F w0 l base w os) {t c : Nat} {A : Option Addr} {b b' : List UInt8} (hx : (t, b, A, c) ∈ os) (hp : b ++ b' <+: F t) {A1 : Option Addr} {c1 : Nat} (hG : Grew w base A c b b' A1 c1 w') : Fill F w0 l base w' ((t, b ++ b', A1, c1) :: os) := by
  refine ⟨h.fam.append hx hp hG (Nat.le_trans h.ok h.size), h.sp.step hG.grown (h.loc _ hx), fun x hx' ad e => ?_, h.ok⟩
  rcases List.mem_cons.1 hx' with rfl | hx'
  · rcases hG.lies with ⟨rfl, _⟩ | ⟨_, hnew⟩
    · exact h.loc _ hx ad e
    · exact .inl (Nat.le_trans h.size (hnew ad e))
  · exact h.loc x hx' ad e
theorem Fill.start {l' : List BA} (hQ : OBs w base l') (hsp : Spared w0 w l) (hloc : ∀ x ∈ l', ∃ y ∈ l, y.2.1 = x.2.1) (hF : ∀ i x, l'[i]? = some x → x.1 <+: F i) (hok : base ≤ w0.heap.size) : Fill F w0 l base w (tagged l') :=
  ⟨Fam.of_rows hQ hF, hsp, fun x hx ad _ => .inr (hloc _ (List.mem_of_getElem? (tagged_mem.1 hx))), hok⟩
end
/-- A row of another sort, when a member of a family is lengthened. -/
theorem own_fam {F : Nat → List UInt8} {w w1 : World} {base b size n : Nat} {e : TypeId} {v : Value} {xs : List Value} {os : List (Nat × BA)} (ho : w.ownsRow b e size v n xs) (h : Fam F w base os) {x : Nat × BA} (hx : x ∈ os) (hgr : w.grownBy w1 (x.2.2.1.map (·.block))) (hne : 5 ≠ e) : w1.ownsRow b e size v n xs := by
  refine ho.kept hgr ?_
  cases hA : x.2.2.1 with
  | none => cases v.ownBlock <;> simp
  | some ad => exact .inr fun e2 => h.ne_own ho hne x hx ad hA e2.symm

theorem own_sym {a b : Option Nat} (h : a = none ∨ a ≠ b) : b = none ∨ b ≠ a := by
  rcases h with h | h
  · cases b with
    | none => exact .inl rfl
    | some k => exact .inr (by rw [h]; simp)
  · exact .inr fun e => h e.symm
/-! ### Marks -/
def MK (i n : Nat) : List UInt8 := List.replicate n (UInt8.ofNat (1 + i % 250))
def TL (i k : Nat) : List UInt8 := List.replicate k (UInt8.ofNat (251 + i % 5))
theorem MK_len (i n : Nat) : (MK i n).length = n := by simp [MK]
theorem TL_len (i k : Nat) : (TL i k).length = k := by simp [TL]
theorem TL_add (i j k : Nat) : TL i j ++ TL i k = TL i (j + k) := by unfold TL; rw [List.replicate_append_replicate]
theorem mk_num (i : Nat) : (UInt8.ofNat (1 + i % 250)).toNat = 1 + i % 250 := by rw [UInt8.toNat_ofNat']; omega
theorem tl_num (i : Nat) : (UInt8.ofNat (251 + i % 5)).toNat = 251 + i % 5 := by rw [UInt8.toNat_ofNat']; omega

set_option maxHeartbeats 2000000 in
set_option maxRecDepth 100000 in
theorem tail_calls (i m : Nat) (h1 : 1 ≤ m) (h2 : m ≤ 2) (w : World) :
    Calls Tryd.prog 63 #[.int .i64 i, .int .i64 m] w fun e w' => ∃ g c', e = .returned (.slice (some ⟨g, 0, none⟩) m c') ∧ (∀ j u, (u8s (TL i m))[j]? = some u → w'.cell? ((⟨g, 0, none⟩ : Addr).add j) = some u) ∧ Below w.heap.size w w' := by
  have HB := Below.refl w.heap.size w
  go_enter Tryd.func63, Tryd.ntmps63
  go_wp2
  go_loopg [5] m (fun n v5 wr => ∃ (k : Nat) (A' : Option Addr) (c' : Nat), n + k = m ∧ v5 = .slice A' k c' ∧
    Aside (wr.ownsRow w.heap.size 5 1 (.slice A' k c') k (u8s (TL i k)) ∧ Below w.heap.size w wr))
  case atStart => exact ⟨0, none, 0, by omega, rfl, ⟨own_nil _ _ _ _, HB⟩⟩
  case round =>
    clear HB
    obtain ⟨k, A2, c2, hn, rfl, HA⟩ := hrel
    obtain ⟨o1, HB⟩ := HA.out
    clear HA
    by_cases hlt : k < m
    · have s1 : decide ((k : Int) < (m : Int)) = true := by rw [decide_eq_true_eq]; omega
      have s1' : decide (k < m) = true := by rw [decide_eq_true_eq]; exact hlt
      have tm : (i : Int).tmod 5 = (i : Int) % 5 := by rw [Int.tmod_eq_emod_of_nonneg (by omega)]
      have en := tl_num i
      have tw : IntKind.u8.wrap ((251 : Int) + (i : Int) % 5) = ((UInt8.ofNat (251 + i % 5)).toNat : Int) := by rw [en, IntKind.wrap_u8]; omega
      have hnext : TL i k ++ [UInt8.ofNat (251 + i % 5)] = TL i (k + 1) := TL_add i k 1
      have Hnext := Lib.hid hnext
      clear hnext en
      generalize UInt8.ofNat (251 + i % 5) = b at Hnext tw
      go_wp2_with (first
        | ((with_reducible refine gate_dst (N := 15) rfl ?_); refine ev_lit rfl rfl (#[.int .u8 b.toNat]) 5 1 (by first | (go_simp; done) | (go_simp; rfl)) ?_; intro g5 W1 hg5 hsz hbn; have hgr := grown_of_below hbn; have zg5 : w.heap.size ≤ g5 := (by have := HB.size; omega); replace o1 := o1.kept hgr (by cases Value.ownBlock _ <;> simp); replace HB := HB.grown hgr (by have := HB.size; omega) (by simp); have hcg5 := hg5.cell; have hfg5 := hg5.frozen; clear hsz hbn hgr)
        | ((with_reducible refine gate_dst (N := 16) rfl ?_); refine ev_append rfl rfl Tryd.underlying25 info_u8 rfl (by omega) rfl o1 rfl (hg5.reads (size := 1) (n := 1) rfl) (fun u hu => by simp at hu; subst hu; rfl) (by omega) (by omega) (by have := HB.size; omega) ?_; intro A6 c6 W2 on hgr hat; replace HB := HB.grown hgr (by have := HB.size; omega) (own_base o1); replace o1 := on; clear on hgr hat))
      go_roundg (gk - 1)
      case measure => omega
      case rel => exact ⟨k + 1, A6, c6, by omega, by simp, ⟨by rw [← Hnext.out, u8s_append]; simpa [u8s] using o1, HB⟩⟩
    · have s1 : decide ((k : Int) < (m : Int)) = false := by rw [decide_eq_false_iff_not]; omega
      have s1' : decide (k < m) = false := by rw [decide_eq_false_iff_not]; exact hlt
      obtain rfl : k = m := by omega
      obtain ⟨g, rfl, _⟩ := own_at o1 (by omega)
      go_wp2
      go_ret
      exact ⟨g, c2, rfl, o1.cells (g := g) rfl, HB⟩

theorem tail1_calls (i : Nat) (w : World) :
    Calls Tryd.prog 63 #[.int .i64 i, .int .i64 1] w fun e w' => ∃ g c', e = .returned (.slice (some ⟨g, 0, none⟩) 1 c') ∧ (∀ j u, (u8s (TL i 1))[j]? = some u → w'.cell? ((⟨g, 0, none⟩ : Addr).add j) = some u) ∧ Below w.heap.size w w' := tail_calls i 1 (by decide) (by decide) w
/-- The data of records, as a list of bytes. -/
def DataSaid (l : List RA) (n : Nat) (w : World) (e : Ending) (w' : World) : Prop :=
  ∃ (A' : Option Addr) (c' : Nat), e = .returned (.slice A' n c') ∧ w'.ownsRow w.heap.size 25 1 (.slice A' n c') n (baCells (bs l)) ∧ Below w.heap.size w w'
set_option maxHeartbeats 2000000 in
set_option maxRecDepth 100000 in
theorem data_calls (l : List RA) (n : Nat) (hn : l.length = n) (A : Option Addr) (c : Nat) (hl : n * 24 ≤ 140737488351232) (w : World) (hr : Reads w w.heap.size 12 A n (recCells l)) :
    Calls Tryd.prog 34 #[.slice A n c] w (DataSaid l n w) := by
  have HB := Below.refl w.heap.size w
  have Hr := Lib.hid hr
  have Hn := Lib.hid hn
  clear hr hn
  unfold DataSaid
  go_enter Tryd.func34, Tryd.ntmps34
  go_wp2
  go_loopg [3, 4] n (fun m v3 v4 wr => ∃ (k : Nat) (A' : Option Addr) (c' : Nat), m + k = n ∧ v4 = .int .i64 k ∧ v3 = .slice A' k c' ∧
    Aside (wr.ownsRow w.heap.size 25 1 (.slice A' k c') k (baCells (bs (l.take k))) ∧ Below w.heap.size w wr))
  case atStart => exact ⟨0, none, 0, by omega, rfl, rfl, ⟨own_nil _ _ _ _, HB⟩⟩
  case round =>
    clear HB
    obtain ⟨k, A2, c2, hm, rfl, rfl, HA⟩ := hrel
    obtain ⟨o1, HB⟩ := HA.out
    clear HA
    by_cases hlt : k < n
    · have s1 : decide ((k : Int) < (n : Int)) = true := by rw [decide_eq_true_eq]; omega
      have s1' : decide (k < n) = true := by rw [decide_eq_true_eq]; exact hlt
      obtain ⟨x, hx⟩ : ∃ x, l[k]? = some x := ⟨_, List.getElem?_eq_getElem (by rw [Hn.out]; exact hlt)⟩
      obtain ⟨r, Ar, cr⟩ := x
      obtain ⟨ad, had, hadlt, hc⟩ := Hr.out.2 (by omega)
      subst had
      have h11 : wr.cell? { block := (ad.add (k * 12)).block, off := (ad.add (k * 12)).off + 11 } = some (.slice Ar r.Data.length cr) := by
        show wr.cell? ((ad.add (k * 12)).add 11) = _
        rw [HB.cell (by rw [block_of_add, block_of_add]; exact hadlt), add_of_add]
        exact hc _ _ ((recCells_get hx 11 (by decide)).trans (Rec.g11 _ _ _))
      have n3 : l.take (k + 1) = l.take k ++ [(r, Ar, cr)] := by rw [List.take_add_one, hx]; rfl
      have N3 := Lib.hid n3
      clear hx n3 hc
      go_wp2_with (first
        | ((with_reducible refine gate_dst (N := 17) rfl ?_); refine ev_lit rfl rfl (#[.slice Ar r.Data.length cr]) 25 1 (by first | (go_simp; done) | (go_simp; rfl)) ?_; intro g5 W1 hg5 hsz hbn; have hgr := grown_of_below hbn; have zg5 : w.heap.size ≤ g5 := (by have := HB.size; omega); replace o1 := o1.kept hgr (by cases Value.ownBlock _ <;> simp); replace HB := HB.grown hgr (by have := HB.size; omega) (by simp); have hcg5 := hg5.cell; have hfg5 := hg5.frozen; clear hsz hbn hgr)
        | ((with_reducible refine gate_dst (N := 18) rfl ?_); refine ev_append rfl rfl Tryd.underlying24 info_bytes rfl (by omega) rfl o1 rfl (hg5.reads (size := 1) (n := 1) rfl) (fun u hu => by simp at hu; subst hu; rfl) (by omega) (by omega) (by have := HB.size; omega) ?_; intro A6 c6 W2 on hgr hat; replace HB := HB.grown hgr (by have := HB.size; omega) (own_base o1); replace o1 := on; clear on hgr hat))
      go_roundg (gk - 1)
      case measure => omega
      case rel => exact ⟨k + 1, A6, c6, by omega, by go_num, rfl, ⟨by rw [N3.out, bs_snoc, baCells_append]; simpa [baCells] using o1, HB⟩⟩
    · have s1 : decide ((k : Int) < (n : Int)) = false := by rw [decide_eq_false_iff_not]; omega
      have s1' : decide (k < n) = false := by rw [decide_eq_false_iff_not]; exact hlt
      obtain rfl : k = n := by omega
      have n3 : l.take k = l := List.take_of_length_le (by rw [Hn.out]; omega)
      go_wp2
      go_ret
      exact ⟨A2, c2, rfl, by rw [← n3]; exact o1, HB⟩
end Go.Proofs.YtikodgaomhmbmaaDoor
namespace Go.Proofs.YtikodgaomhmbmaaDoor
open Go.RowKit

/-- The rows, each full of its mark. -/
def marks (l : List BA) : List BA := l.mapIdx fun i x => (MK i x.1.length, x.2)
theorem marks_len (l : List BA) : (marks l).length = l.length := by simp [marks]
theorem marks_get (l : List BA) (i : Nat) : (marks l)[i]? = l[i]?.map fun x => (MK i x.1.length, x.2) := by unfold marks; rw [List.getElem?_mapIdx]
/-- What may stand in a row and behind it. -/
def F4 (l : List BA) (i : Nat) : List UInt8 := MK i (((l[i]?).map fun x => x.1.length).getD 0) ++ TL i 70
theorem F4_at {l : List BA} {i : Nat} {x : BA} (h : l[i]? = some x) : F4 l i = MK i x.1.length ++ TL i 70 := by simp [F4, h]
theorem F4_pre {l : List BA} {i : Nat} {x : BA} (h : l[i]? = some x) {j : Nat} (hj : j ≤ 70) : MK i x.1.length ++ TL i j <+: F4 l i := by
  rw [F4_at h]
  refine ⟨TL i (70 - j), ?_⟩
  rw [List.append_assoc, TL_add, show j + (70 - j) = 70 by omega]
theorem F4_pre0 {l : List BA} {i : Nat} {x : BA} (h : l[i]? = some x) : MK i x.1.length <+: F4 l i := by
  rw [F4_at h]
  exact List.prefix_append _ _
/-- What filled hands out for the rows l. -/
structure More (l : List BA) (k : Nat) (ms : List (Nat × BA)) : Prop where
  len : ms.length = 3 * k
  at_ : ∀ i x, i < k → l[i]? = some x → ∃ y1 y2 y3 : Nat × BA, ms[3 * i]? = some y1 ∧ ms[3 * i + 1]? = some y2 ∧ ms[3 * i + 2]? = some y3 ∧ y1.2.1 = MK i x.1.length ++ TL i 1 ∧ y2.2.1 = MK i x.1.length ++ TL i 2 ∧ y3.2.1 = MK i x.1.length ++ TL i 70
theorem More.nil {l : List BA} : More l 0 [] := ⟨rfl, fun i x h => by omega⟩
theorem More.snoc {l : List BA} {k : Nat} {ms : List (Nat × BA)} (h : More l k ms) {x : BA} (hx : l[k]? = some x) {y1 y2 y3 : Nat × BA} (h1 : y1.2.1 = MK k x.1.length ++ TL k 1) (h2 : y2.2.1 = MK k x.1.length ++ TL k 2) (h3 : y3.2.1 = MK k x.1.length ++ TL k 70) : More l (k + 1) (ms ++ [y1, y2, y3]) := by
  refine ⟨by simp [h.len]; omega, fun i z hi hz => ?_⟩
  rcases Nat.lt_or_ge i k with hik | hik
  · obtain ⟨a, b, c, ha, hb, hc, r⟩ := h.at_ i z hik hz
    refine ⟨a, b, c, ?_, ?_, ?_, r⟩
    · rw [List.getElem?_append_left (by rw [h.len]; omega)]; exact ha
    · rw [List.getElem?_append_left (by rw [h.len]; omega)]; exact hb
    · rw [List.getElem?_append_left (by rw [h.len]; omega)]; exact hc
  · obtain rfl : i = k := by omega
    rw [hx] at hz
    injection hz with hz
    subst hz
    refine ⟨y1, y2, y3, ?_, ?_, ?_, h1, h2, h3⟩
    · rw [List.getElem?_append_right (by rw [h.len]; omega), h.len, Nat.sub_self]; rfl
    · rw [List.getElem?_append_right (by rw [h.len]; omega), h.len, show 3 * i + 1 - 3 * i = 1 by omega]; rfl
    · rw [List.getElem?_append_right (by rw [h.len]; omega), h.len, show 3 * i + 2 - 3 * i = 2 by omega]; rfl

/-- Rows that are being filled: the first i are, of the next one the first j bytes. -/
structure Filling (w0 : World) (l : List BA) (base : Nat) (w : World) (i j : Nat) (cur : List BA) : Prop where
  rows : OBs w base cur
  len : cur.length = l.length
  at_ : ∀ k x, l[k]? = some x → ∃ b', cur[k]? = some (b', x.2) ∧ b'.length = x.1.length ∧ (k < i → b' = MK k x.1.length) ∧ (k = i → b'.take j = MK k j)
  sp : Spared w0 w l
theorem Filling.start {l : List BA} {base : Nat} {w : World} (h : OBs w base l) : Filling w l base w 0 0 l := ⟨h, rfl, fun k x hx => ⟨x.1, hx, rfl, fun h => by omega, fun _ => by simp [MK]⟩, Spared.refl⟩
theorem Filling.next_row {w0 w : World} {l : List BA} {base i j : Nat} {cur : List BA} (h : Filling w0 l base w i j cur) {x : BA} (hx : l[i]? = some x) (hj : j = x.1.length) : Filling w0 l base w (i + 1) 0 cur := by
  refine ⟨h.rows, h.len, fun k y hy => ?_, h.sp⟩
  obtain ⟨b', h1, h2, h3, h4⟩ := h.at_ k y hy
  refine ⟨b', h1, h2, fun hk => ?_, fun _ => by simp [MK]⟩
  rcases Nat.lt_or_ge k i with hki | hki
  · exact h3 hki
  · obtain rfl : k = i := by omega
    rw [hx] at hy
    injection hy with hy
    subst hy
    have := h4 rfl
    rw [hj, List.take_of_length_le (by omega)] at this
    exact this
theorem Filling.done {w0 w : World} {l : List BA} {base j : Nat} {cur : List BA} (h : Filling w0 l base w l.length j cur) : cur = marks l := by
  apply List.ext_getElem?
  intro k
  rw [marks_get]
  cases hx : l[k]? with
  | none => rw [List.getElem?_eq_none (by rw [h.len]; exact List.getElem?_eq_none_iff.1 hx)]; rfl
  | some x =>
    obtain ⟨b', h1, h2, h3, h4⟩ := h.at_ k x hx
    rw [h1, h3 (List.getElem?_eq_some_iff.1 hx).1]
    rfl
/-- One byte more. -/
theorem Filling.byte {w0 w w' : World} {l : List BA} {base i j g c : Nat} {cur : List BA} (h : Filling w0 l base w i j cur) {b b' : List UInt8} (hx : l[i]? = some (b, some ⟨g, 0, none⟩, c)) (hb : cur[i]? = some (b', some ⟨g, 0, none⟩, c)) (hj : j < b.length)
    (hy : OB w' base (some ⟨g, 0, none⟩) c (b'.set j (UInt8.ofNat (1 + i % 250)))) (hgr : w.grownBy w' (some g)) : Filling w0 l base w' i (j + 1) (cur.set i (b'.set j (UInt8.ofNat (1 + i % 250)), some ⟨g, 0, none⟩, c)) := by
  refine ⟨h.rows.set_ hb hy hgr, by rw [List.length_set]; exact h.len, fun k y hyk => ?_, h.sp.step (A := some ⟨g, 0, none⟩) hgr (fun ad e => .inr ⟨_, List.mem_of_getElem? hx, rfl⟩)⟩
  obtain ⟨b2, h1, h2, h3, h4⟩ := h.at_ k y hyk
  by_cases hk : k = i
  · subst hk
    rw [hx] at hyk
    injection hyk with hyk
    subst hyk
    rw [hb] at h1
    injection h1 with h1
    injection h1 with h1 _
    subst h1
    refine ⟨b'.set j (UInt8.ofNat (1 + k % 250)), by rw [List.getElem?_set_self (List.getElem?_eq_some_iff.1 hb).1], by simpa using h2, fun h => by omega, fun _ => ?_⟩
    have h4 := h4 rfl
    have hjl : j < b'.length := by simpa [h2] using hj
    rw [List.take_add_one, List.take_set_of_le (Nat.le_refl _), h4, List.getElem?_set_self hjl]
    show MK k j ++ [UInt8.ofNat (1 + k % 250)] = _
    unfold MK
    rw [List.replicate_succ']
  · exact ⟨b2, by rw [List.getElem?_set_ne (fun e => hk e.symm)]; exact h1, h2, h3, fun e => absurd e hk⟩
theorem Filling.get {w0 w : World} {l : List BA} {base i j : Nat} {cur : List BA} (h : Filling w0 l base w i j cur) {k : Nat} {b : List UInt8} {A : Option Addr} {c : Nat} (hx : l[k]? = some (b, A, c)) : ∃ b', cur[k]? = some (b', A, c) ∧ b'.length = b.length := by
  obtain ⟨b', h1, h2, _⟩ := h.at_ k _ hx
  exact ⟨b', h1, h2⟩

theorem fill_start {w wr : World} {l : List BA} {base i j : Nat} (hQ : OBs w base l) (h : Filling w l base wr i j (marks l)) (hbase : base ≤ w.heap.size) : Fill (F4 l) w l base wr (tagged (marks l)) := by
  refine Fill.start h.rows h.sp (fun x hx => ?_) (fun k x hx => ?_) hbase
  · obtain ⟨k, hk⟩ := List.mem_iff_getElem?.1 hx
    rw [marks_get] at hk
    obtain ⟨y, hy, rfl⟩ := Option.map_eq_some_iff.1 hk
    exact ⟨y, List.mem_of_getElem? hy, rfl⟩
  · rw [marks_get] at hx
    obtain ⟨y, hy, rfl⟩ := Option.map_eq_some_iff.1 hx
    exact F4_pre0 hy
/-- What filled says. -/
def FillSaid (l : List BA) (n base : Nat) (w : World) (e : Ending) (w' : World) : Prop :=
  ∃ (A' : Option Addr) (c' : Nat) (ts : List (Nat × BA)), e = .returned (.slice A' (3 * n) c') ∧ More l n ts ∧ w'.ownsRow w.heap.size 25 1 (.slice A' (3 * n) c') (3 * n) (baCells (ts.map (·.2))) ∧ Fill (F4 l) w l base w' (tagged (marks l) ++ ts)

set_option maxHeartbeats 4000000 in
set_option maxRecDepth 100000 in
theorem filled4_calls (l : List BA) (n : Nat) (hn : l.length = n) (A : Option Addr) (c b0 base : Nat) (hl : n ≤ 1000000000) (hs : ∀ x ∈ l, x.1.length ≤ 140737488351232) (w : World) (hbase : base ≤ w.heap.size) (hQ : OBs w base l) (ho : w.ownsRow b0 25 1 (.slice A n c) n (baCells l)) :
    Calls Tryd.prog 33 #[.slice A n c] w (FillSaid l n base w) := by
  have Hn := Lib.hid hn
  have Hs := Lib.hid hs
  have Hf := Lib.hid (Filling.start hQ)
  have HQ := Lib.hid hQ
  have Ho := Lib.hid ho
  clear hn hs hQ ho
  go_enter Tryd.func33, Tryd.ntmps33
  go_wp2
  go_loopg [3] n (fun m v3 wr => ∃ i : Nat, m + i = n ∧ v3 = .int .i64 i ∧ Aside (∃ cur, Filling w l base wr i 0 cur))
  case atStart => exact ⟨0, by omega, rfl, ⟨_, Hf.out⟩⟩
  case round =>
    clear Hf
    obtain ⟨gm, rfl⟩ : ∃ gm, gm = gk := ⟨_, rfl⟩
    obtain ⟨i, hm, rfl, HA⟩ := hrel
    obtain ⟨cur, HF⟩ := HA.out
    clear HA
    by_cases hlt : i < n
    · have s1 : decide ((i : Int) < (n : Int)) = true := by rw [decide_eq_true_eq]; omega
      have s1' : decide (i < n) = true := by rw [decide_eq_true_eq]; exact hlt
      obtain ⟨gB, rfl, _⟩ := own_at Ho.out (by omega)
      obtain ⟨x, hx⟩ : ∃ x, l[i]? = some x := ⟨_, List.getElem?_eq_getElem (by rw [Hn.out]; exact hlt)⟩
      obtain ⟨b, Ai, ci⟩ := x
      have Hx := Lib.hid hx
      have hcell : ∀ (W : World), Spared w W l → W.cell? ⟨gB, i, none⟩ = some (.slice Ai b.length ci) := fun W h => own_cellN (own_spared Ho.out h HQ.out (by decide)) i (baCells_get Hx.out)
      have Hcell := Lib.hid hcell
      have tm : (i : Int).tmod 250 = (i : Int) % 250 := by rw [Int.tmod_eq_emod_of_nonneg (by omega)]
      have tw : IntKind.u8.wrap ((1 : Int) + (i : Int) % 250) = ((UInt8.ofNat (1 + i % 250)).toNat : Int) := by rw [mk_num, IntKind.wrap_u8]; omega
      obtain ⟨nb, hnb⟩ : ∃ nb, b.length = nb := ⟨_, rfl⟩
      rw [hnb] at Hcell
      have hnbl : nb ≤ 140737488351232 := by have := Hs.out _ (List.mem_of_getElem? hx); simp only at this; omega
      have Hnb := Lib.hid hnb
      clear hx hcell hnb
      go_wp2
      go_loopg [4] nb (fun m v4 wr => ∃ (j : Nat), m + j = nb ∧ v4 = .int .i64 j ∧ Aside (∃ cur, Filling w l base wr i j cur))
      case atStart => exact ⟨0, by omega, rfl, ⟨_, HF⟩⟩
      case round =>
        clear HF
        obtain ⟨j, hm2, rfl, HA⟩ := hrel
        obtain ⟨cur, HF⟩ := HA.out
        clear HA
        have hcw := Hcell.out _ HF.sp
        by_cases hj : j < nb
        · have r1 : decide ((j : Int) < (nb : Int)) = true := by rw [decide_eq_true_eq]; omega
          have r1' : decide (j < nb) = true := by rw [decide_eq_true_eq]; exact hj
          obtain ⟨b', hb', hbl⟩ := HF.get Hx.out
          have hB := HF.rows.all _ (List.mem_of_getElem? hb')
          have hjb : j < b.length := by rw [Hnb.out]; exact hj
          obtain ⟨gi, hgi, _⟩ := hB.at_ (by simp only [hbl]; omega)
          simp only at hgi
          subst hgi
          have hjb' : j < b'.length := by omega
          have Hb' := Lib.hid hb'
          have HFF := Lib.hid HF
          clear hb' HF hbl
          go_wp2_with (first
            | ((with_reducible refine gate_store (p := 35) rfl ?_); refine ev_store_ob (b := UInt8.ofNat (1 + i % 250)) rfl rfl rfl hB (k := j) hjb' rfl rfl (by kernel_rfl) ?_; intro W2 B9 hgr))
          go_roundg (gk - 1)
          case measure => omega
          case rel => exact ⟨j + 1, by omega, by go_num, ⟨_, HFF.out.byte Hx.out Hb'.out hjb B9 hgr⟩⟩
        · have r1 : decide ((j : Int) < (nb : Int)) = false := by rw [decide_eq_false_iff_not]; omega
          have r1' : decide (j < nb) = false := by rw [decide_eq_false_iff_not]; exact hj
          obtain rfl : j = nb := by omega
          go_wp2
          go_roundg (gm - 1)
          case measure => omega
          case rel => exact ⟨i + 1, by omega, by go_num, ⟨cur, HF.next_row Hx.out Hnb.out.symm⟩⟩
    · have hin : l.length = i := by rw [Hn.out]; omega
      have s1 : decide ((i : Int) < (n : Int)) = false := by rw [decide_eq_false_iff_not]; omega
      have s1' : decide (i < n) = false := by rw [decide_eq_false_iff_not]; exact hlt
      rw [← hin] at HF
      have hcur := HF.done
      subst hcur
      have X0 := fill_start HQ.out HF hbase
      have HX0 := Lib.hid X0
      clear HF hin X0
      go_wp2
      go_loopg [5, 6] n (fun m v5 v6 wr => ∃ (k : Nat) (A5 : Option Addr) (c5 : Nat) (ts : List (Nat × BA)), m + k = n ∧ v6 = .int .i64 k ∧ v5 = .slice A5 (3 * k) c5 ∧ Aside (More l k ts ∧ wr.ownsRow w.heap.size 25 1 (.slice A5 (3 * k) c5) (3 * k) (baCells (ts.map (·.2))) ∧ Fill (F4 l) w l base wr (tagged (marks l) ++ ts)))
      case atStart => exact ⟨0, none, 0, [], by omega, rfl, rfl, ⟨More.nil, own_nil _ _ _ _, by simpa using HX0.out⟩⟩
      case round =>
        clear HX0
        obtain ⟨gm2, rfl⟩ : ∃ gm2, gm2 = gk := ⟨_, rfl⟩
        obtain ⟨k, A5, c5, ts, hm2, rfl, rfl, HA⟩ := hrel
        obtain ⟨hmore, o5, X1⟩ := HA.out
        clear HA
        have Hmore := Lib.hid hmore
        clear hmore
        by_cases hk : k < n
        · have r1 : decide ((k : Int) < (n : Int)) = true := by rw [decide_eq_true_eq]; omega
          have r1' : decide (k < n) = true := by rw [decide_eq_true_eq]; exact hk
          obtain ⟨gB, rfl, _⟩ := own_at Ho.out (by omega)
          obtain ⟨x, hx⟩ : ∃ x, l[k]? = some x := ⟨_, List.getElem?_eq_getElem (by rw [Hn.out]; exact hk)⟩
          obtain ⟨b, Ai, ci⟩ := x
          have Hx := Lib.hid hx
          have hcell : ∀ (W : World), Spared w W l → W.cell? ⟨gB, k, none⟩ = some (.slice Ai b.length ci) := fun W h => own_cellN (own_spared Ho.out h HQ.out (by decide)) k (baCells_get Hx.out)
          have Hcell := Lib.hid hcell
          have hmem : (k, MK k b.length, Ai, ci) ∈ tagged (marks l) ++ ts := List.mem_append_left _ (tagged_mem.2 (by rw [marks_get, Hx.out]; rfl))
          have hp1 : MK k b.length ++ TL k 1 <+: F4 l k := F4_pre Hx.out (by omega)
          have hp2 : MK k b.length ++ TL k 2 <+: F4 l k := F4_pre Hx.out (by omega)
          have hpj : ∀ j, j < 70 → (MK k b.length ++ TL k j) ++ TL k 1 <+: F4 l k := fun j hj => by
            rw [List.append_assoc, TL_add]
            exact F4_pre Hx.out (by omega)
          obtain ⟨nb, hnb⟩ : ∃ nb, b.length = nb := ⟨_, rfl⟩
          have hnbl : nb ≤ 140737488351232 := by have := Hs.out _ (List.mem_of_getElem? hx); simp only at this; omega
          rw [hnb] at Hcell hmem hp1 hp2 hpj
          have Hnb := Lib.hid hnb
          have Hmem := Lib.hid hmem
          have Hp1 := Lib.hid hp1
          have Hp2 := Lib.hid hp2
          have Hpj := Lib.hid hpj
          clear hx hcell hnb hmem hp1 hp2 hpj
          go_wp2
          refine held_start (fun w' => Spared w w' l) (by kernel_rfl) (fun wd hbd => ?_)
          replace o5 := own_next o5 hbd
          replace X1 := X1.next hbd
          refine take_at (i := 0) (v := .slice (some ⟨gB, 0, none⟩) n c) 42 rfl rfl (by kernel_rfl) (by kernel_rfl) (by kernel_rfl) (fun _ _ _ h => h) (.inl ⟨rfl, fun w h => by simp [go_sem]⟩) X1.sp ?_
          simp only [Act.put, List.getElem_toArray, List.getElem_cons_succ, List.getElem_cons_zero, List.setIfInBounds_toArray, List.set_cons_succ, List.set_cons_zero]
          refine take_at (i := 1) (v := .int .i64 k) 43 rfl rfl (by kernel_rfl) (by kernel_rfl) (by kernel_rfl) (fun _ _ _ h => h) (.inl ⟨rfl, fun w h => by simp [go_sem]⟩) X1.sp ?_
          simp only [Act.put, List.getElem_toArray, List.getElem_cons_succ, List.getElem_cons_zero, List.setIfInBounds_toArray, List.set_cons_succ, List.set_cons_zero]
          refine take_at (i := 2) (v := .pointer (some ⟨gB, k, none⟩)) 44 rfl rfl (by kernel_rfl) (by kernel_rfl) (by kernel_rfl) (fun _ _ _ h => h) (.inl ⟨rfl, fun w h => by simp [go_sem, hk]⟩) X1.sp ?_
          simp only [Act.put, List.getElem_toArray, List.getElem_cons_succ, List.getElem_cons_zero, List.setIfInBounds_toArray, List.set_cons_succ, List.set_cons_zero]
          refine take_at (i := 3) (v := .slice Ai nb ci) 45 rfl rfl (by kernel_rfl) (by kernel_rfl) (by kernel_rfl) (fun _ _ _ h => h) (.inl ⟨rfl, fun w h => by simp [go_sem, Hcell.out w h]⟩) X1.sp ?_
          simp only [Act.put, List.getElem_toArray, List.getElem_cons_succ, List.getElem_cons_zero, List.setIfInBounds_toArray, List.set_cons_succ, List.set_cons_zero]
          refine take_at (i := 4) (v := .int .i64 k) 46 rfl rfl (by kernel_rfl) (by kernel_rfl) (by kernel_rfl) (fun _ _ _ h => h) (.inl ⟨rfl, fun w h => by simp [go_sem]⟩) X1.sp ?_
          simp only [Act.put, List.getElem_toArray, List.getElem_cons_succ, List.getElem_cons_zero, List.setIfInBounds_toArray, List.set_cons_succ, List.set_cons_zero]
          refine held_one (i := 5) (by kernel_rfl) rfl ?_
          (refine ev_call2 rfl rfl ⟨_, _, Tryd.func63, by kernel_rfl, rfl⟩ rfl rfl ?_; refine Calls.mono (tail_calls k 1 (by omega) (by omega) _) ?_; rintro e W1 ⟨g8, c8, rfl, h8, hb⟩; refine ⟨_, rfl, ?_⟩; have hgr := grown_of_below hb; replace o5 := o5.kept hgr (by cases Value.ownBlock _ <;> simp); replace X1 := X1.grown hgr; clear hb hgr)
          refine ⟨X1.sp, ?_⟩
          try simp only [Act.put, List.getElem_toArray, List.getElem_cons_succ, List.getElem_cons_zero, List.setIfInBounds_toArray, List.set_cons_succ, List.set_cons_zero]
          refine held_one (i := 6) (by kernel_rfl) rfl ?_
          ((with_reducible refine gate_dst (N := 48) rfl ?_); refine ev_append_ob rfl rfl rfl (MK_len k nb) (X1.fam.all _ Hmem.out) (by have := X1.ok; have := X1.size; omega) rfl (TL_len k 1) h8 (by omega) ?_; intro A1 c1 W2 hG; replace o5 := own_fam o5 X1.fam Hmem.out hG.grown (by decide); replace X1 := X1.append Hmem.out Hp1.out hG; clear hG)
          refine ⟨X1.sp, ?_⟩
          try simp only [Act.put, List.getElem_toArray, List.getElem_cons_succ, List.getElem_cons_zero, List.setIfInBounds_toArray, List.set_cons_succ, List.set_cons_zero]
          refine held_one (i := 7) (by kernel_rfl) rfl ?_
          refine ev_run rfl (w1 := W2) (v := .slice A1 (nb + 1) c1) (by simp [go_sem]) ?_
          refine ⟨X1.sp, ?_⟩
          try simp only [Act.put, List.getElem_toArray, List.getElem_cons_succ, List.getElem_cons_zero, List.setIfInBounds_toArray, List.set_cons_succ, List.set_cons_zero]
          refine wpAnyH_done (by kernel_rfl) ?_ _
          clear h8
          go_wp2
          refine held_start (fun w' => Spared w w' l) (by kernel_rfl) (fun wd2 hbd2 => ?_)
          replace o5 := own_next o5 hbd2
          replace X1 := X1.next hbd2
          refine take_at (i := 0) (v := .slice (some ⟨gB, 0, none⟩) n c) 49 rfl rfl (by kernel_rfl) (by kernel_rfl) (by kernel_rfl) (fun _ _ _ h => h) (.inl ⟨rfl, fun w h => by simp [go_sem]⟩) X1.sp ?_
          simp only [Act.put, List.getElem_toArray, List.getElem_cons_succ, List.getElem_cons_zero, List.setIfInBounds_toArray, List.set_cons_succ, List.set_cons_zero]
          refine take_at (i := 1) (v := .int .i64 k) 50 rfl rfl (by kernel_rfl) (by kernel_rfl) (by kernel_rfl) (fun _ _ _ h => h) (.inl ⟨rfl, fun w h => by simp [go_sem]⟩) X1.sp ?_
          simp only [Act.put, List.getElem_toArray, List.getElem_cons_succ, List.getElem_cons_zero, List.setIfInBounds_toArray, List.set_cons_succ, List.set_cons_zero]
          refine take_at (i := 2) (v := .pointer (some ⟨gB, k, none⟩)) 51 rfl rfl (by kernel_rfl) (by kernel_rfl) (by kernel_rfl) (fun _ _ _ h => h) (.inl ⟨rfl, fun w h => by simp [go_sem, hk]⟩) X1.sp ?_
          simp only [Act.put, List.getElem_toArray, List.getElem_cons_succ, List.getElem_cons_zero, List.setIfInBounds_toArray, List.set_cons_succ, List.set_cons_zero]
          refine take_at (i := 3) (v := .slice Ai nb ci) 52 rfl rfl (by kernel_rfl) (by kernel_rfl) (by kernel_rfl) (fun _ _ _ h => h) (.inl ⟨rfl, fun w h => by simp [go_sem, Hcell.out w h]⟩) X1.sp ?_
          simp only [Act.put, List.getElem_toArray, List.getElem_cons_succ, List.getElem_cons_zero, List.setIfInBounds_toArray, List.set_cons_succ, List.set_cons_zero]
          refine take_at (i := 4) (v := .int .i64 k) 53 rfl rfl (by kernel_rfl) (by kernel_rfl) (by kernel_rfl) (fun _ _ _ h => h) (.inl ⟨rfl, fun w h => by simp [go_sem]⟩) X1.sp ?_
          simp only [Act.put, List.getElem_toArray, List.getElem_cons_succ, List.getElem_cons_zero, List.setIfInBounds_toArray, List.set_cons_succ, List.set_cons_zero]
          refine held_one (i := 5) (by kernel_rfl) rfl ?_
          (refine ev_call2 rfl rfl ⟨_, _, Tryd.func63, by kernel_rfl, rfl⟩ rfl rfl ?_; refine Calls.mono (tail_calls k 2 (by omega) (by omega) _) ?_; rintro e W1 ⟨g8, c8, rfl, h8, hb⟩; refine ⟨_, rfl, ?_⟩; have hgr := grown_of_below hb; replace o5 := o5.kept hgr (by cases Value.ownBlock _ <;> simp); replace X1 := X1.grown hgr; clear hb hgr)
          refine ⟨X1.sp, ?_⟩
          try simp only [Act.put, List.getElem_toArray, List.getElem_cons_succ, List.getElem_cons_zero, List.setIfInBounds_toArray, List.set_cons_succ, List.set_cons_zero]
          refine held_one (i := 6) (by kernel_rfl) rfl ?_
          ((with_reducible refine gate_dst (N := 55) rfl ?_); refine ev_append_ob rfl rfl rfl (MK_len k nb) (X1.fam.all _ (List.mem_cons_of_mem _ Hmem.out)) (by have := X1.ok; have := X1.size; omega) rfl (TL_len k 2) h8 (by omega) ?_; intro A2 c2 W2 hG; replace o5 := own_fam o5 X1.fam (List.mem_cons_of_mem _ Hmem.out) hG.grown (by decide); replace X1 := X1.append (List.mem_cons_of_mem _ Hmem.out) Hp2.out hG; clear hG)
          refine ⟨X1.sp, ?_⟩
          try simp only [Act.put, List.getElem_toArray, List.getElem_cons_succ, List.getElem_cons_zero, List.setIfInBounds_toArray, List.set_cons_succ, List.set_cons_zero]
          refine held_one (i := 7) (by kernel_rfl) rfl ?_
          refine ev_run rfl (w1 := W2) (v := .slice A2 (nb + 2) c2) (by simp [go_sem]) ?_
          refine ⟨X1.sp, ?_⟩
          try simp only [Act.put, List.getElem_toArray, List.getElem_cons_succ, List.getElem_cons_zero, List.setIfInBounds_toArray, List.set_cons_succ, List.set_cons_zero]
          refine wpAnyH_done (by kernel_rfl) ?_ _
          clear h8
          have hcw := Hcell.out _ X1.sp
          have X2 := X1.sub (qs := (k, MK k nb ++ TL k 0, Ai, ci) :: (k, MK k nb ++ TL k 2, A2, c2) :: (k, MK k nb ++ TL k 1, A1, c1) :: (tagged (marks l) ++ ts)) (fun x hx => by
            rcases List.mem_cons.1 hx with rfl | hx
            · have := Hmem.out
              rw [show MK k nb ++ TL k 0 = MK k nb by simp [TL]]
              exact List.mem_cons_of_mem _ (List.mem_cons_of_mem _ this)
            · exact hx)
          clear X1
          have HX2 := Lib.hid X2
          clear X2
          go_wp2
          go_loopg [9, 10] 70 (fun m v9 v10 wr => ∃ (j : Nat) (A3 : Option Addr) (c3 : Nat), m + j = 70 ∧ v10 = .int .i64 j ∧ v9 = .slice A3 (nb + j) c3 ∧ Aside (wr.ownsRow w.heap.size 25 1 (.slice A5 (3 * k) c5) (3 * k) (baCells (ts.map (·.2))) ∧ Fill (F4 l) w l base wr ((k, MK k nb ++ TL k j, A3, c3) :: (k, MK k nb ++ TL k 2, A2, c2) :: (k, MK k nb ++ TL k 1, A1, c1) :: (tagged (marks l) ++ ts))))
          case atStart => exact ⟨0, Ai, ci, by omega, rfl, rfl, ⟨o5, HX2.out⟩⟩
          case round =>
            clear o5 HX2 hcw
            obtain ⟨j, A3, c3, hm3, rfl, rfl, HA⟩ := hrel
            obtain ⟨o5, X1⟩ := HA.out
            clear HA
            by_cases hj : j < 70
            · have q1 : decide ((j : Int) < 70) = true := by rw [decide_eq_true_eq]; omega
              have q1' : decide (j < 70) = true := by rw [decide_eq_true_eq]; exact hj
              have hl3 : (MK k nb ++ TL k j).length = nb + j := by rw [List.length_append, MK_len, TL_len]
              have Hl3 := Lib.hid hl3
              have Hpp := Lib.hid (Hpj.out j hj)
              clear hl3
              go_wp2_with (first
                | (go_at_call 63; (with_reducible refine (tail1_calls k _).mono ?_); rintro e W1 ⟨g8, c8, rfl, h8, hb⟩; have hgr := grown_of_below hb; replace o5 := o5.kept hgr (by cases Value.ownBlock _ <;> simp); replace X1 := X1.grown hgr; clear hb hgr)
                | ((with_reducible refine gate_dst (N := 67) rfl ?_); refine ev_append_ob rfl rfl rfl Hl3.out (X1.fam.all _ List.mem_cons_self) (by have := X1.ok; have := X1.size; omega) rfl (TL_len k 1) h8 (by omega) ?_; intro A4 c4 W2 hG; replace o5 := own_fam o5 X1.fam List.mem_cons_self hG.grown (by decide); replace X1 := X1.append List.mem_cons_self Hpp.out hG; clear hG))
              have X3 := X1.sub (qs := (k, MK k nb ++ TL k (j + 1), A4, c4) :: (k, MK k nb ++ TL k 2, A2, c2) :: (k, MK k nb ++ TL k 1, A1, c1) :: (tagged (marks l) ++ ts)) (fun x hx => by
                rcases List.mem_cons.1 hx with rfl | hx
                · rw [← TL_add, ← List.append_assoc]
                  exact List.mem_cons_self
                · exact List.mem_cons_of_mem _ (List.mem_cons_of_mem _ hx))
              go_roundg (gk - 1)
              case measure => omega
              case rel => exact ⟨j + 1, A4, c4, by omega, by go_num, rfl, ⟨o5, X3⟩⟩
            · obtain rfl : j = 70 := by omega
              have X3 := X1.sub (qs := tagged (marks l) ++ (ts ++ [(k, MK k nb ++ TL k 1, A1, c1), (k, MK k nb ++ TL k 2, A2, c2), (k, MK k nb ++ TL k 70, A3, c3)])) (fun x hx => by
                simp only [List.mem_append, List.mem_cons, List.not_mem_nil, or_false] at hx ⊢
                rcases hx with h | h | h | h | h <;> simp [h])
              have Hm2 := Lib.hid (Hmore.out.snoc Hx.out (y1 := (k, MK k nb ++ TL k 1, A1, c1)) (y2 := (k, MK k nb ++ TL k 2, A2, c2)) (y3 := (k, MK k nb ++ TL k 70, A3, c3)) (by simp only [Hnb.out]) (by simp only [Hnb.out]) (by simp only [Hnb.out]))
              clear X1
              go_wp2_with (first
                | ((with_reducible refine gate_dst (N := 72) rfl ?_); refine ev_lit rfl rfl (#[.slice A1 (nb + 1) c1, .slice A2 (nb + 2) c2, .slice A3 (nb + 70) c3]) 25 3 (by first | (go_simp; done) | (go_simp; rfl)) ?_; intro g5 W1 hg5 hsz hbn; have hgr := grown_of_below hbn; have zg5 : w.heap.size ≤ g5 := (by have := X3.size; omega); replace o5 := o5.kept hgr (by cases Value.ownBlock _ <;> simp); replace X3 := X3.grown hgr; have hcg5 := hg5.cell; have hfg5 := hg5.frozen; clear hsz hbn hgr)
                | ((with_reducible refine gate_dst (N := 73) rfl ?_); refine ev_append rfl rfl Tryd.underlying24 info_bytes rfl (by omega) rfl o5 rfl (hg5.reads (size := 1) (n := 3) rfl) (fun u hu => by simp at hu; rcases hu with rfl | rfl | rfl <;> rfl) (by omega) (by omega) (by have := X3.size; omega) ?_; intro A6 c6 W2 on hgr hat; replace X3 := X3.kept hgr (X3.ne_own o5 (by decide)); replace o5 := on; clear on hgr hat))
              go_roundg (gm2 - 1)
              case measure => omega
              case rel => exact ⟨k + 1, A6, c6, _, by omega, by go_num, rfl, ⟨Hm2.out, by rw [List.map_append, baCells_append]; rw [show 3 * (k + 1) = 3 * k + 3 by omega]; simpa [baCells, MK_len, TL_len] using o5, X3⟩⟩
        · obtain rfl : k = n := by omega
          have r1 : decide ((k : Int) < (k : Int)) = false := by simp
          have r1' : decide (k < k) = false := by simp
          go_wp2
          go_ret
          exact ⟨A5, c5, ts, rfl, Hmore.out, o5, X1⟩
/-- The same, the number of what is handed out named; what lies behind is one family. -/
theorem filled4_n (l : List BA) (n n3 : Nat) (hn : l.length = n) (hn3 : n3 = 3 * n) (A : Option Addr) (c b0 base : Nat) (hl : n ≤ 1000000000) (hs : ∀ x ∈ l, x.1.length ≤ 140737488351232) (w : World) (hbase : base ≤ w.heap.size) (hQ : OBs w base l) (ho : w.ownsRow b0 25 1 (.slice A n c) n (baCells l)) :
    Calls Tryd.prog 33 #[.slice A n c] w fun e w' => ∃ (A' : Option Addr) (c' : Nat) (ts : List (Nat × BA)), e = .returned (.slice A' n3 c') ∧ Aside (More l n ts) ∧ w'.ownsRow w.heap.size 25 1 (.slice A' n3 c') n3 (baCells (ts.map (·.2))) ∧ Fill (F4 l) w l base w' (tagged (marks l) ++ ts) := by
  subst hn3
  exact (filled4_calls l n hn A c b0 base hl hs w hbase hQ ho).mono fun e w' ⟨A', c', ts, he, hm, ho, hX⟩ => ⟨A', c', ts, he, hm, ho, hX⟩
theorem baCells_marks (l : List BA) : baCells (marks l) = baCells l := by
  apply List.ext_getElem?
  intro k
  unfold baCells
  rw [List.getElem?_map, List.getElem?_map, marks_get]
  cases l[k]? with
  | none => rfl
  | some x => simp [MK_len]
end Go.Proofs.YtikodgaomhmbmaaDoor
namespace Go.Proofs.YtikodgaomhmbmaaDoor
open Go.RowKit

theorem MK_get {i n j : Nat} (h : j < n) : (MK i n)[j]? = some (UInt8.ofNat (1 + i % 250)) := by simp [MK, h]
theorem MT_get1 {i n k j : Nat} (h : j < n) : (MK i n ++ TL i k)[j]? = some (UInt8.ofNat (1 + i % 250)) := by rw [List.getElem?_append_left (by rw [MK_len]; exact h), MK_get h]
theorem MT_get2 {i n k j : Nat} (h : n ≤ j) (hj : j < n + k) : (MK i n ++ TL i k)[j]? = some (UInt8.ofNat (251 + i % 5)) := by
  rw [List.getElem?_append_right (by rw [MK_len]; exact h), MK_len]
  unfold TL
  rw [List.getElem?_replicate, if_pos (by omega)]
theorem RB.cell_at {w : World} {A : Option Addr} {l : List UInt8} (h : RB w A l) {k : Nat} {b : UInt8} (hk : l[k]? = some b) : ∃ ad, A = some ad ∧ w.cell? (ad.add k) = some (.int .u8 b.toNat) := by
  obtain ⟨hl, e⟩ := List.getElem?_eq_some_iff.1 hk
  obtain ⟨ad, e1, hc⟩ := h.get hl
  rw [e] at hc
  exact ⟨ad, e1, hc⟩
theorem Reads.cell_at {w : World} {B n : Nat} {A : Option Addr} {xs : List Value} (h : Reads w B 1 A n xs) {k : Nat} {u : Value} (hk : xs[k]? = some u) {ad : Addr} (hA : A = some ad) : w.cell? (ad.add k) = some u := by
  have hl : k < xs.length := (List.getElem?_eq_some_iff.1 hk).1
  obtain ⟨ad', e, _, hc⟩ := h.2 (by have := h.1; omega)
  rw [hA] at e
  injection e with e
  subst e
  exact hc k u hk
/-- The lengthened lists at the three places of a list. -/
theorem More.three {l : List BA} {n : Nat} {ts : List (Nat × BA)} (h : More l n ts) {i : Nat} {x : BA} (hi : i < n) (hx : l[i]? = some x) (q : Nat) (hq : q < 3) : ∃ (y : Nat × BA) (k : Nat), ts[3 * i + q]? = some y ∧ y.2.1 = MK i x.1.length ++ TL i k := by
  obtain ⟨y1, y2, y3, h1, h2, h3, e1, e2, e3⟩ := h.at_ i x hi hx
  obtain rfl | rfl | rfl : q = 0 ∨ q = 1 ∨ q = 2 := by omega
  · exact ⟨y1, 1, h1, e1⟩
  · exact ⟨y2, 2, h2, e2⟩
  · exact ⟨y3, 70, h3, e3⟩
/-- What stand is asked of reads as it should. -/
structure Stands (w : World) (l : List BA) (n : Nat) (A B : Option Addr) (ts : List (Nat × BA)) : Prop where
  more : More l n ts
  len : l.length = n
  rowA : Reads w w.heap.size 1 A n (baCells l)
  rowB : Reads w w.heap.size 1 B (3 * n) (baCells (ts.map (·.2)))
  marks : ∀ i x, l[i]? = some x → RB w x.2.1 (MK i x.1.length)
  longs : ∀ y ∈ ts, RB w y.2.2.1 y.2.1
  short : n ≤ 1000000000 ∧ ∀ x ∈ l, x.1.length ≤ 140737488351232
theorem stands_of_fam {w : World} {base b1 b2 n c d : Nat} {l : List BA} {A B : Option Addr} {ts : List (Nat × BA)} (hm : More l n ts) (hn : l.length = n) (hA : w.ownsRow b1 25 1 (.slice A n c) n (baCells l)) (hB : w.ownsRow b2 25 1 (.slice B (3 * n) d) (3 * n) (baCells (ts.map (·.2))))
    (hV : Fam (F4 l) w base (tagged (marks l) ++ ts)) (hs : n ≤ 1000000000) (hs2 : ∀ x ∈ l, x.1.length ≤ 140737488351232) : Stands w l n A B ts := by
  refine ⟨hm, hn, Reads.of_own hA, Reads.of_own hB, fun i x hx => ?_, fun y hy => (hV.all y (List.mem_append_right _ hy)).rb, hs, hs2⟩
  have h1 : (i, MK i x.1.length, x.2) ∈ tagged (marks l) ++ ts := List.mem_append_left _ (tagged_mem.2 (by rw [marks_get, hx]; rfl))
  exact (hV.all _ h1).rb
theorem Stands.next {w w' : World} {l : List BA} {n : Nat} {A B : Option Addr} {ts : List (Nat × BA)} (h : Stands w l n A B ts) (hb : Below w.heap.size w w') : Stands w' l n A B ts :=
  ⟨h.more, h.len, Reads.next h.rowA hb, Reads.next h.rowB hb, fun i x hx => (h.marks i x hx).next hb, fun y hy => (h.longs y hy).next hb, h.short⟩
theorem wrap_mul3 (i p : Nat) (h : p = 3 * i) (hi : i ≤ 1048576) : wrap64 (3 * (i : Int)) = (p : Int) := by subst h; unfold wrap64; omega
theorem wrap_add (a m k : Nat) (h : m = a + k) (hm : m ≤ 9000000000000000000) : wrap64 ((a : Int) + (k : Int)) = (m : Int) := by subst h; unfold wrap64; omega
theorem mark_wrap (i : Nat) : IntKind.u8.wrap ((1 : Int) + (i : Int) % 250) = ((UInt8.ofNat (1 + i % 250)).toNat : Int) := by rw [mk_num, IntKind.wrap_u8]; omega
theorem tail_wrap (i : Nat) : IntKind.u8.wrap ((251 : Int) + (i : Int) % 5) = ((UInt8.ofNat (251 + i % 5)).toNat : Int) := by rw [tl_num, IntKind.wrap_u8]; omega
theorem More.tl_le {l : List BA} {n : Nat} {ts : List (Nat × BA)} (h : More l n ts) {i : Nat} {x : BA} (hi : i < n) (hx : l[i]? = some x) {kk nb tl : Nat} {y : Nat × BA} (hy : ts[kk]? = some y) (ey : y.2.1 = MK i nb ++ TL i tl) (h1 : 3 * i ≤ kk) (h2 : kk < 3 * i + 3) (hnb : x.1.length = nb) : tl ≤ 70 := by
  obtain ⟨y1, y2, y3, e1, e2, e3, f1, f2, f3⟩ := h.at_ i x hi hx
  have hl : y.2.1.length = nb + tl := by rw [ey, List.length_append, MK_len, TL_len]
  obtain rfl | rfl | rfl : kk = 3 * i ∨ kk = 3 * i + 1 ∨ kk = 3 * i + 2 := by omega
  · rw [e1] at hy; injection hy with hy; rw [← hy, f1, List.length_append, MK_len, TL_len] at hl; omega
  · rw [e2] at hy; injection hy with hy; rw [← hy, f2, List.length_append, MK_len, TL_len] at hl; omega
  · rw [e3] at hy; injection hy with hy; rw [← hy, f3, List.length_append, MK_len, TL_len] at hl; omega
theorem wrap_nat (n : Nat) (h : n ≤ 9000000000000000000) : wrap64 (n : Int) = (n : Int) := by unfold wrap64; omega

set_option maxHeartbeats 4000000 in
set_option maxRecDepth 100000 in
theorem stand4_calls (l : List BA) (n n3 : Nat) (hn3 : n3 = 3 * n) (A B : Option Addr) (c d : Nat) (ts : List (Nat × BA)) (w : World) (hS : Stands w l n A B ts) :
    Calls Tryd.prog 35 #[.slice A n c, .slice B n3 d] w fun e w' => e = .returned (.bool true) ∧ Below w.heap.size w w' := by
  have HB := Below.refl w.heap.size w
  have HS := Lib.hid hS
  have Hn3 := Lib.hid hn3
  have hl := hS.short.1
  clear hS hn3
  go_enter Tryd.func35, Tryd.ntmps35
  go_wp2
  go_loopg [5] n (fun m v5 wr => ∃ i : Nat, m + i = n ∧ v5 = .int .i64 i ∧ Aside (Below w.heap.size w wr))
  case atStart => exact ⟨0, by omega, rfl, HB⟩
  case round =>
    clear HB
    obtain ⟨gm, rfl⟩ : ∃ gm, gm = gk := ⟨_, rfl⟩
    obtain ⟨i, hm, rfl, HA⟩ := hrel
    have HB := HA.out
    clear HA
    by_cases hi : i < n
    · have s1 : decide ((i : Int) < (n : Int)) = true := by rw [decide_eq_true_eq]; omega
      have s1' : decide (i < n) = true := by rw [decide_eq_true_eq]; exact hi
      obtain ⟨x, hx⟩ : ∃ x, l[i]? = some x := ⟨_, List.getElem?_eq_getElem (by rw [HS.out.len]; exact hi)⟩
      obtain ⟨b, Ai, ci⟩ := x
      have hbl := HS.out.short.2 _ (List.mem_of_getElem? hx)
      obtain ⟨nb, hnb⟩ : ∃ nb, b.length = nb := ⟨_, rfl⟩
      simp only [hnb] at hbl
      obtain ⟨ad, had, _, _⟩ := HS.out.rowA.2 (by omega)
      obtain ⟨bd, hbd, _, _⟩ := HS.out.rowB.2 (by omega)
      obtain ⟨y1, y2, y3, hy1, hy2, hy3, e1, e2, e3⟩ := HS.out.more.at_ i _ hi hx
      simp only [hnb] at e1 e2 e3
      have b1 : 3 * i < n3 := by have := Hn3.out; omega
      have b2 : 3 * i + 1 < n3 := by have := Hn3.out; omega
      have b3 : 3 * i + 2 < n3 := by have := Hn3.out; omega
      have lc : ∀ (y : Nat × BA) (k m : Nat), y.2.1 = MK i nb ++ TL i k → m = nb + k → y.2.1.length = m := fun y k m h1 h2 => by rw [h1, List.length_append, MK_len, TL_len, h2]
      have Hc0 := Lib.hid (fun (W : World) (hb : Below w.heap.size w W) => show W.cell? (ad.add i) = some (.slice Ai nb ci) from by
        have := (HS.out.next hb).rowA.cell_at (baCells_get hx) had
        rwa [show ((b, Ai, ci) : BA).1.length = nb from hnb] at this)
      have Hc1 := Lib.hid (fun (W : World) (hb : Below w.heap.size w W) => show W.cell? (bd.add (3 * i)) = some (.slice y1.2.2.1 (nb + 1) y1.2.2.2) from by
        have := (HS.out.next hb).rowB.cell_at (k := 3 * i) (baCells_get (by rw [List.getElem?_map, hy1]; rfl)) hbd
        rwa [lc y1 1 (nb + 1) e1 rfl] at this)
      have Hc2 := Lib.hid (fun (W : World) (hb : Below w.heap.size w W) => show W.cell? { block := bd.block, off := bd.off + (3 * i + 1) } = some (.slice y2.2.2.1 (nb + 2) y2.2.2.2) from by
        have := (HS.out.next hb).rowB.cell_at (k := 3 * i + 1) (baCells_get (by rw [List.getElem?_map, hy2]; rfl)) hbd
        rw [lc y2 2 (nb + 2) e2 rfl] at this
        exact this)
      have Hc3 := Lib.hid (fun (W : World) (hb : Below w.heap.size w W) => show W.cell? { block := bd.block, off := bd.off + (3 * i + 2) } = some (.slice y3.2.2.1 (nb + 70) y3.2.2.2) from by
        have := (HS.out.next hb).rowB.cell_at (k := 3 * i + 2) (baCells_get (by rw [List.getElem?_map, hy3]; rfl)) hbd
        rw [lc y3 70 (nb + 70) e3 rfl] at this
        exact this)
      have hc0 := Hc0.out _ HB
      have hc1 := Hc1.out _ HB
      have hc2 := Hc2.out _ HB
      have hc3 := Hc3.out _ HB
      have Hx := Lib.hid hx
      have Hnb := Lib.hid hnb
      have Had := Lib.hid had
      have Hbd := Lib.hid hbd
      subst had
      subst hbd
      clear hx hnb hy1 hy2 hy3 e1 e2 e3 lc
      have tm1 : (i : Int).tmod 250 = (i : Int) % 250 := by rw [Int.tmod_eq_emod_of_nonneg (by omega)]
      have tw1 : IntKind.u8.wrap ((1 : Int) + (i : Int) % 250) = ((UInt8.ofNat (1 + i % 250)).toNat : Int) := mark_wrap i
      have tm2 : (i : Int).tmod 5 = (i : Int) % 5 := by rw [Int.tmod_eq_emod_of_nonneg (by omega)]
      have tw2 : IntKind.u8.wrap ((251 : Int) + (i : Int) % 5) = ((UInt8.ofNat (251 + i % 5)).toNat : Int) := tail_wrap i
      go_wp2
      clear hc0 hc1 hc2 hc3 b1 b2 b3
      go_loopg [7] 3 (fun m v7 wr => ∃ kk : Nat, m + kk = 3 * i + 3 ∧ 3 * i ≤ kk ∧ v7 = .int .i64 kk ∧ Aside (Below w.heap.size w wr))
      case atStart => exact ⟨3 * i, by omega, by omega, by simp, HB⟩
      case round =>
        clear HB
        obtain ⟨gm2, rfl⟩ : ∃ gm2, gm2 = gk := ⟨_, rfl⟩
        obtain ⟨kk, hmk, hk3, rfl, HA⟩ := hrel
        have HB := HA.out
        clear HA
        by_cases hkk : kk < 3 * i + 3
        · have r1 : decide ((kk : Int) < 3 * (i : Int) + 3) = true := by rw [decide_eq_true_eq]; omega
          have r1' : decide (kk < 3 * i + 3) = true := by rw [decide_eq_true_eq]; exact hkk
          obtain ⟨y, tl, hy, ey⟩ := HS.out.more.three hi Hx.out (kk - 3 * i) (by omega)
          rw [show 3 * i + (kk - 3 * i) = kk by omega] at hy
          rw [show ((b, Ai, ci) : BA).1.length = nb from Hnb.out] at ey
          have hyr := HS.out.longs y (List.mem_of_getElem? hy)
          have hlen : y.2.1.length = nb + tl := by rw [ey, List.length_append, MK_len, TL_len]
          have Hck := Lib.hid (fun (W : World) (hb : Below w.heap.size w W) => show W.cell? (bd.add kk) = some (.slice y.2.2.1 (nb + tl) y.2.2.2) from by
            have := (HS.out.next hb).rowB.cell_at (k := kk) (baCells_get (by rw [List.getElem?_map, hy]; rfl)) rfl
            rwa [hlen] at this)
          have bk : kk < n3 := by have := Hn3.out; omega
          obtain ⟨my, hmy⟩ : ∃ my, my = nb + tl := ⟨_, rfl⟩
          have hmyl : my ≤ 140737488351400 := by
            have htl : tl ≤ 70 := HS.out.more.tl_le hi Hx.out hy ey hk3 hkk Hnb.out
            omega
          rw [← hmy] at Hck
          have Hey := Lib.hid ey
          have Hyr := Lib.hid hyr
          have Hmy := Lib.hid hmy
          clear hy ey hyr hlen hmy
          go_wp2
          go_loopg [8] my (fun m v8 wr => ∃ j : Nat, m + j = my ∧ v8 = .int .i64 j ∧ Aside (Below w.heap.size w wr))
          case atStart => exact ⟨0, by omega, rfl, HB⟩
          case round =>
            clear HB
            obtain ⟨j, hmj, rfl, HA⟩ := hrel
            have HB := HA.out
            clear HA
            have hck := Hck.out _ HB
            have hc0 := Hc0.out _ HB
            by_cases hj : j < my
            · have q1 : decide ((j : Int) < (my : Int)) = true := by rw [decide_eq_true_eq]; omega
              have q1' : decide (j < my) = true := by rw [decide_eq_true_eq]; exact hj
              by_cases hjn : j < nb
              · have q2 : decide ((nb : Int) ≤ (j : Int)) = false := by rw [decide_eq_false_iff_not]; omega
                have q2' : decide (nb ≤ j) = false := by rw [decide_eq_false_iff_not]; omega
                have q3 : decide ((j : Int) < (nb : Int)) = true := by rw [decide_eq_true_eq]; omega
                have q3' : decide (j < nb) = true := by rw [decide_eq_true_eq]; exact hjn
                obtain ⟨yd, hyd, hc5⟩ := (Hyr.out.next HB).cell_at (k := j) (b := UInt8.ofNat (1 + i % 250)) (by rw [Hey.out]; exact MT_get1 hjn)
                obtain ⟨xd, hxd, hc6⟩ := ((HS.out.marks i _ Hx.out).next HB).cell_at (k := j) (b := UInt8.ofNat (1 + i % 250)) (by rw [show ((b, Ai, ci) : BA).1.length = nb from Hnb.out]; exact MK_get hjn)
                rw [hyd] at hck
                simp only at hxd
                rw [hxd] at hc0
                clear Hc0 Hc1 Hc2 Hc3 Hck
                go_wp2
                go_roundg (gk - 1)
                case measure => omega
                case rel => exact ⟨j + 1, by omega, by go_num, HB⟩
              · have q2 : decide ((nb : Int) ≤ (j : Int)) = true := by rw [decide_eq_true_eq]; omega
                have q2' : decide (nb ≤ j) = true := by rw [decide_eq_true_eq]; omega
                have q3 : decide ((j : Int) < (nb : Int)) = false := by rw [decide_eq_false_iff_not]; omega
                have q3' : decide (j < nb) = false := by rw [decide_eq_false_iff_not]; exact hjn
                obtain ⟨yd, hyd, hc5⟩ := (Hyr.out.next HB).cell_at (k := j) (b := UInt8.ofNat (251 + i % 5)) (by rw [Hey.out]; exact MT_get2 (by omega) (by have := Hmy.out; omega))
                rw [hyd] at hck
                clear Hc0 Hc1 Hc2 Hc3 Hck
                go_wp2
                go_roundg (gk - 1)
                case measure => omega
                case rel => exact ⟨j + 1, by omega, by go_num, HB⟩
            · have q1 : decide ((j : Int) < (my : Int)) = false := by rw [decide_eq_false_iff_not]; omega
              have q1' : decide (j < my) = false := by rw [decide_eq_false_iff_not]; exact hj
              go_wp2
              go_roundg (gm2 - 1)
              case measure => omega
              case rel => exact ⟨kk + 1, by omega, by omega, by go_num, HB⟩
        · have r1 : decide ((kk : Int) < 3 * (i : Int) + 3) = false := by rw [decide_eq_false_iff_not]; omega
          have r1' : decide (kk < 3 * i + 3) = false := by rw [decide_eq_false_iff_not]; exact hkk
          go_wp2
          go_roundg (gm - 1)
          case measure => omega
          case rel => exact ⟨i + 1, by omega, by go_num, HB⟩
    · obtain rfl : i = n := by omega
      have s1 : decide ((i : Int) < (i : Int)) = false := by simp
      have s1' : decide (i < i) = false := by simp
      go_wp2
      go_ret
      exact ⟨rfl, HB⟩
end Go.Proofs.YtikodgaomhmbmaaDoor
namespace Go.Proofs.YtikodgaomhmbmaaDoor
open Go.RowKit

/-- A slice of a row: its cells, its length, where it begins, its room. -/
abbrev GA := List Value × Nat × Option Addr × Nat
def GA.val (x : GA) : Value := .slice x.2.2.1 x.2.1 x.2.2.2
/-- Where two lists both have a cell they have the same. -/
def AgreesG (m k : List Value) : Prop := ∀ (j : Nat) (x y : Value), m[j]? = some x → k[j]? = some y → x = y
theorem agreesG_of_prefix {m k f : List Value} (h1 : m <+: f) (h2 : k <+: f) : AgreesG m k := by
  intro j x y hx hy
  obtain ⟨t1, rfl⟩ := h1
  obtain ⟨t2, e⟩ := h2
  have h1 : (m ++ t1)[j]? = some x := by rw [List.getElem?_append_left (List.getElem?_eq_some_iff.1 hx).1]; exact hx
  have h2 : (k ++ t2)[j]? = some y := by rw [List.getElem?_append_left (List.getElem?_eq_some_iff.1 hy).1]; exact hy
  rw [e, h1] at h2
  injection h2
/-- What an append onto a row of one's own leaves. -/
structure GrewG (e : TypeId) (size : Nat) (w : World) (base : Nat) (A : Option Addr) (c n : Nat) (xs news : List Value) (m : Nat) (A1 : Option Addr) (c1 : Nat) (w1 : World) : Prop where
  made : w1.ownsRow base e size (.slice A1 (n + m) c1) (n + m) (xs ++ news)
  grown : w.grownBy w1 (A.map (·.block))
  lies : (A1 = A ∧ c1 = c) ∨ (w.grownBy w1 none ∧ ∀ ad, A1 = some ad → w.heap.size ≤ ad.block)
  also : ∀ n2 ys, w.ownsRow base e size (.slice A n2 c) n2 ys → AgreesG ys (xs ++ news) → w1.ownsRow base e size (.slice A n2 c) n2 ys
set_option maxRecDepth 100000 in
theorem run_append_share {P : Program} (w : World) (base : Nat) (t ty e : TypeId) (i : TypeInfo) (z : Value) (size bytes : Nat) (ht : P.underlying t = some (.slice e)) (hi : P.info? e = some i) (hz : i.zero = some z)
    (hsize : i.size = size) (hby : i.bytes = bytes) (hzs : z.cells.size = size) (hsz : 0 < size)
    (A : Option Addr) (c0 n : Nat) (xs : List Value) (hown : w.ownsRow base e size (.slice A n c0) n xs)
    (a : Addr) (m c : Nat) (news : List Value) (hl : news.length = m * size) (hnews : ∀ j u, news[j]? = some u → w.cell? (a.add j) = some u) (h1 : ∀ u ∈ news, u.oneCell' = true)
    (hb0 : 0 < bytes) (hbytes : (n + m) * bytes ≤ 140737488355328) (hbase : base ≤ w.heap.size) :
    ∃ A1 c1 w', (Builtin.append_ #[t, t] ty #[.slice A n c0, .slice (some a) m c]).run P w = .ok (.slice A1 (n + m) c1) w' ∧ GrewG e size w base A c0 n xs news m A1 c1 w' := by
  have hlen0 : n + m ≤ 140737488355328 := Nat.le_trans (Nat.le_mul_of_pos_right _ hb0) hbytes
  have h63 : n + m ≤ maxLen := by simp only [maxLen]; omega
  have h0 := hown
  rcases hown.2 with ⟨hv, hn0⟩ | ⟨g, cap, cur, hv, hbg, hg, hnc, hcm, hcs, htake⟩
  · injection hv with e1 _ e3
    subst e1 e3 hn0
    have hx : xs = [] := List.eq_nil_of_length_eq_zero (by simpa using hown.1)
    subst hx
    obtain ⟨v', w1, hrun, ho, hgr, _, _⟩ := run_append_own_at (P := P) w w.heap.size t ty e i z size bytes ht hi hz hsize hby hzs hsz (.slice none 0 0) 0 [] (own_nil w _ _ _) a m c news hl hnews h1 h63 hbytes (Nat.le_refl _)
    obtain ⟨A1, c1, rfl⟩ := own_slice ho
    have hg' : w.grownBy w1 none := hgr
    refine ⟨A1, c1, w1, hrun, own_mono ho hbase, hg', .inr ⟨hg', fun ad e2 => ?_⟩, fun n2 ys hy _ => hy.kept hg' (.inl rfl)⟩
    have := own_base ho ad.block (by rw [e2]; rfl)
    exact this
  · injection hv with e1 _ e3
    subst e1 e3
    have hlen : (xs ++ news).length = (n + m) * size := by rw [List.length_append, hown.1, hl, Nat.add_mul]
    by_cases hroom : n + m ≤ c0
    · have hfit : n * i.size + news.length ≤ cur.size := by rw [hl, hcs, hsize, ← Nat.add_mul]; exact Nat.mul_le_mul_right _ hroom
      have hr := run_append_room (P := P) w t ty e i ht hi g n c0 cur hg a m c news (by rw [hsize]; exact hl) hnews h1 hroom hfit
      rw [hsize] at hr hfit
      have hgr : w.grownBy (w.setRow g (cur.toList.take (n * size) ++ news ++ cur.toList.drop (n * size + news.length)).toArray) (some g) := ⟨rfl, rfl, rfl, by simp, fun k _ hk => setRow_other w g k _ (fun e => hk (by rw [e]))⟩
      have hsz2 : (cur.toList.take (n * size) ++ news ++ cur.toList.drop (n * size + news.length)).toArray.size = c0 * size := by
        simp only [List.size_toArray, List.length_append, List.length_take, List.length_drop, Array.length_toList]
        omega
      refine ⟨some ⟨g, 0, none⟩, c0, _, hr, ⟨hlen, .inr ⟨g, c0, _, rfl, hbg, setRow_heap w g cur _ e _ hg, hroom, hcm, hsz2, ?_⟩⟩, hgr, .inl ⟨rfl, rfl⟩, fun n2 ys hy hag => ⟨hy.1, .inr ⟨g, c0, _, rfl, hbg, setRow_heap w g cur _ e _ hg, ?_, hcm, hsz2, ?_⟩⟩⟩
      · rw [htake, ← hlen]
        exact List.take_left
      · rcases hy.2 with ⟨h2, h3⟩ | ⟨g', cap', cur', hv', _, _, hn2, _⟩
        · omega
        · injection hv' with _ _ e3
          omega
      · rcases hy.2 with ⟨h2, h3⟩ | ⟨g', cap', cur', hv', _, hg', hn2, _, _, ht2⟩
        · cases h2
        · injection hv' with e1 _ e3
          injection e1 with e1
          injection e1 with e1
          subst e1
          rw [hg] at hg'
          injection hg' with hg'
          injection hg' with e4 _ _
          subst e4
          rw [htake]
          apply List.ext_getElem?
          intro j
          rw [List.getElem?_take]
          by_cases hj : j < n2 * size
          · rw [if_pos hj]
            have hyj : cur.toList[j]? = ys[j]? := by rw [← ht2, List.getElem?_take, if_pos hj]
            have hjy : j < ys.length := by rw [hy.1]; exact hj
            rcases Nat.lt_or_ge j (xs ++ news).length with hjl | hjl
            · rw [List.getElem?_append_left hjl, List.getElem?_eq_getElem hjl, List.getElem?_eq_getElem hjy]
              rw [hag j ys[j] (xs ++ news)[j] (List.getElem?_eq_getElem hjy) (List.getElem?_eq_getElem hjl)]
            · rw [List.getElem?_append_right hjl, List.getElem?_drop, ← hyj]
              congr 1
              rw [List.length_append] at hjl ⊢
              have := hown.1
              omega
          · rw [if_neg hj, List.getElem?_eq_none (by rw [hy.1]; omega)]
    · have holds : ∀ j u, xs[j]? = some u → w.cell? ((⟨g, 0, none⟩ : Addr).add j) = some u := h0.cells (g := g) rfl
      have hr := run_append_grow (P := P) w t ty e i z ht hi hz ⟨g, 0, none⟩ n c0 xs (by rw [hsize]; exact hown.1) holds a m c news (by rw [hsize]; exact hl) hnews (by omega) (by omega) (by rw [hby]; exact growslice_fits (by omega) hbytes)
      have hge := grownCap_ge w (n + m) c0 e
      have hcm2 : grownCap w (n + m) c0 e ≤ maxLen := grownCap_le_maxLen w (n + m) c0 e h63
      generalize grownCap w (n + m) c0 e = c1 at hr hge hcm2
      have hgr : ∀ row, w.grownBy (w.drew.alloc (.cells (xs.toArray ++ news.toArray ++ Builtin.zeroCells z.cells (c1 - (n + m))) e)) row := fun row => ⟨rfl, rfl, rfl, by simp, fun k hk _ => Below.heap_alloc w.drew _ k hk⟩
      refine ⟨some ⟨w.heap.size, 0, none⟩, c1, _, hr, ⟨hlen, .inr ⟨w.heap.size, _, _, rfl, hbase, heap_alloc_new w.drew _, hge, hcm2, ?_, ?_⟩⟩, hgr _, .inr ⟨hgr none, fun ad' e2 => by injection e2 with e2; subst e2; exact Nat.le_refl _⟩, fun n2 ys hy _ => hy.kept (hgr none) (by cases Value.ownBlock _ <;> simp)⟩
      · simp only [Array.size_append, List.size_toArray, size_zeroCells, hzs, hown.1, hl, ← Nat.add_mul]
        congr 1
        omega
      · simp only [Array.toList_append, List.append_assoc]
        rw [← List.append_assoc, ← hlen]
        exact List.take_left
section
variable {P : Program} {ops : Array Oper} {rest : List Oper} {o : Oper} {a : Act} {Q : Exit → Act → World → Prop} {W : World}
theorem ev_append_share (hgd : o.guard = none) {s x : Operand} {t : TypeId} (ho : o.op = .call { callee := .builtin .append, args := #[s, x], argTypes := #[t, t] })
    {base : Nat} {e : TypeId} {z : Value} {size bytes : Nat} (ht : P.underlying t = some (.slice e)) (hinfo : (P.info? e).map (fun i => (i.zero, i.size, i.bytes)) = some (some z, size, bytes))
    (hzs : z.cells.size = size) (hsz : 0 < size) {A0 : Option Addr} {c0 n : Nat} {xs : List Value} (hs : a.eval s = .slice A0 n c0) (hown : W.ownsRow base e size (.slice A0 n c0) n xs)
    {ad : Addr} {m c : Nat} {news : List Value} (hx : a.eval x = .slice (some ad) m c) (hl : news.length = m * size) (hnews : ∀ j u, news[j]? = some u → W.cell? (ad.add j) = some u) (h1 : ∀ u ∈ news, u.oneCell' = true)
    (hbytes : (n + m) * bytes ≤ 140737488355328) (hb0 : 0 < bytes) (hbase : base ≤ W.heap.size)
    (h : ∀ A1 c1 w1, GrewG e size W base A0 c0 n xs news m A1 c1 w1 → wpList P ops Q rest (a.put o.dst (.slice A1 (n + m) c1)) w1) : wpList P ops Q (o :: rest) a W := by
  obtain ⟨i0, hi, hz0, hz1, hz2⟩ := info_parts hinfo
  obtain ⟨A1, c1, w1, hrun, hG⟩ := run_append_share (P := P) W base t o.type e i0 z size bytes ht hi hz0 hz1 hz2 hzs hsz A0 c0 n xs hown ad m c news hl hnews h1 hb0 hbytes hbase
  refine ev_run hgd (w1 := w1) (v := .slice A1 (n + m) c1) ?_ (h A1 c1 w1 hG)
  simp only [execOp, ho, resolve, invoke, builtin, Sem.run_bind, Sem.run_pure, Result.andThen_ok, List.map_toArray, List.map_cons, List.map_nil, hs, hx, hrun]
end

/-! ### Lists of such rows -/
structure OGs (e : TypeId) (size : Nat) (w : World) (base : Nat) (os : List GA) : Prop where
  all : ∀ x ∈ os, w.ownsRow base e size x.val x.2.1 x.1
  apart : os.Pairwise fun x y => Apart x.2.2.1 y.2.2.1
theorem own_lt_at {w : World} {base n c size : Nat} {e : TypeId} {A : Option Addr} {xs : List Value} (h : w.ownsRow base e size (.slice A n c) n xs) {ad : Addr} (hA : A = some ad) : base ≤ ad.block ∧ ad.block < w.heap.size := by
  subst hA
  exact h.lt _ rfl
section
variable {e : TypeId} {size : Nat} {w w' : World} {base : Nat} {os : List GA}
theorem OGs.nil : OGs e size w base [] := ⟨fun x hx => (by cases hx), List.Pairwise.nil⟩
theorem OGs.lt (h : OGs e size w base os) : ∀ x ∈ os, ∀ ad, x.2.2.1 = some ad → base ≤ ad.block ∧ ad.block < w.heap.size := fun x hx _ e => own_lt_at (h.all x hx) e
theorem OGs.kept {row : Option Nat} (h : OGs e size w base os) (hgr : w.grownBy w' row) (hne : ∀ x ∈ os, ∀ ad, x.2.2.1 = some ad → some ad.block ≠ row) : OGs e size w' base os := by
  refine ⟨fun x hx => (h.all x hx).kept hgr ?_, h.apart⟩
  unfold GA.val
  cases hA : x.2.2.1 with
  | none => exact .inl rfl
  | some ad => exact .inr fun e => hne x hx ad hA e
theorem OGs.next (h : OGs e size w base os) (hb : Below w.heap.size w w') : OGs e size w' base os := h.kept (grown_of_below hb) (by simp)
theorem OGs.mono {base' : Nat} (h : OGs e size w base os) (hb : base' ≤ base) : OGs e size w base' os := ⟨fun x hx => own_mono (h.all x hx) hb, h.apart⟩
theorem OGs.ne_own {base' size' n : Nat} {e' : TypeId} {v : Value} {xs : List Value} (h : OGs e size w base os) (ho : w.ownsRow base' e' size' v n xs) (hne : e ≠ e') : ∀ x ∈ os, ∀ ad, x.2.2.1 = some ad → some ad.block ≠ v.ownBlock := fun x hx ad hA he => by
  have h1 := h.all x hx
  unfold GA.val at h1
  rw [hA] at h1
  rcases own_ty_ne h1 ho hne with h2 | h2
  · cases h2
  · exact h2 he
theorem OGs.ne_blk {g : Nat} {t : TypeId} {cs : Array Value} (h : OGs e size w base os) (hg : Blk w g t cs) (hne : e ≠ t) : ∀ x ∈ os, ∀ ad, x.2.2.1 = some ad → some ad.block ≠ some g := fun x hx ad hA he => by
  have h1 := h.all x hx
  unfold GA.val at h1
  rw [hA] at h1
  exact own_blk_ne h1 hg hne he
theorem OGs.snoc {y : GA} (h : OGs e size w base os) (hy : w.ownsRow base e size y.val y.2.1 y.1) (hd : ∀ x ∈ os, Apart x.2.2.1 y.2.2.1) : OGs e size w base (os ++ [y]) := by
  constructor
  · intro x hx
    rcases List.mem_append.1 hx with hx | hx
    · exact h.all x hx
    · obtain rfl : x = y := by simpa using hx
      exact hy
  · refine List.pairwise_append.2 ⟨h.apart, List.pairwise_singleton _ _, ?_⟩
    intro a ha b hb
    obtain rfl : b = y := by simpa using hb
    exact hd a ha
theorem OGs.others (h : OGs e size w base os) {k : Nat} {y : GA} (hk : os[k]? = some y) {j : Nat} {x : GA} (hj : os[j]? = some x) (hne : j ≠ k) : Apart x.2.2.1 y.2.2.1 := by
  have hp := List.pairwise_iff_getElem.1 h.apart
  obtain ⟨hk1, rfl⟩ := List.getElem?_eq_some_iff.1 hk
  obtain ⟨hj1, rfl⟩ := List.getElem?_eq_some_iff.1 hj
  rcases Nat.lt_or_gt_of_ne hne with hl | hl
  · exact hp j k hj1 hk1 hl
  · exact (hp k j hk1 hj1 hl).symm
/-- A new row lies apart from those that were there. -/
theorem OGs.apart_new {base' n c : Nat} {A : Option Addr} {xs : List Value} (h : OGs e size w base os) (h' : w'.ownsRow base' e size (.slice A n c) n xs) (hb : w.heap.size ≤ base') : ∀ x ∈ os, Apart x.2.2.1 A := fun x hx a b ha hb' e2 => by
  have h1 := (h.lt x hx a ha).2
  have h2 := (own_lt_at h' hb').1
  omega
/-- One of the rows holds other cells, the others stay. -/
theorem OGs.set_ (h : OGs e size w base os) {k : Nat} {xs ys : List Value} {n g c : Nat} (hk : os[k]? = some (xs, n, some ⟨g, 0, none⟩, c)) (hy : w'.ownsRow base e size (.slice (some ⟨g, 0, none⟩) n c) n ys) (hgr : w.grownBy w' (some g)) : OGs e size w' base (os.set k (ys, n, some ⟨g, 0, none⟩, c)) := by
  have hkl : k < os.length := (List.getElem?_eq_some_iff.1 hk).1
  constructor
  · intro x hx
    obtain ⟨j, hj⟩ := List.mem_iff_getElem?.1 hx
    by_cases e1 : k = j
    · subst e1
      rw [List.getElem?_set_self hkl] at hj
      injection hj with hj
      subst hj
      exact hy
    · rw [List.getElem?_set_ne e1] at hj
      refine (h.all x (List.mem_of_getElem? hj)).kept hgr ?_
      unfold GA.val
      cases hA : x.2.2.1 with
      | none => exact .inl rfl
      | some ad =>
        refine .inr fun e' => ?_
        injection e' with e'
        exact h.others hk hj (fun e2 => e1 e2.symm) ad ⟨g, 0, none⟩ hA rfl e'
  · rw [List.pairwise_iff_getElem]
    intro i j hi hj hij
    have e1 : ∀ (i : Nat) (hi : i < (os.set k (ys, n, some ⟨g, 0, none⟩, c)).length), (os.set k (ys, n, some ⟨g, 0, none⟩, c))[i].2.2.1 = (os[i]'(by simpa using hi)).2.2.1 := by
      intro i hi
      rw [List.getElem_set]
      split
      · rename_i e2
        subst e2
        obtain ⟨_, e2⟩ := List.getElem?_eq_some_iff.1 hk
        rw [e2]
      · rfl
    rw [e1 i hi, e1 j hj]
    exact List.pairwise_iff_getElem.1 h.apart i j _ _ hij
end

/-! ### Families -/
structure FamG (e : TypeId) (size : Nat) (F : Nat → List Value) (w : World) (base : Nat) (os : List (Nat × GA)) : Prop where
  all : ∀ x ∈ os, w.ownsRow base e size x.2.val x.2.2.1 x.2.1
  pre : ∀ x ∈ os, x.2.1 <+: F x.1
  pair : ∀ x ∈ os, ∀ y ∈ os, Apart x.2.2.2.1 y.2.2.2.1 ∨ (x.1 = y.1 ∧ x.2.2.2 = y.2.2.2)
section
variable {e : TypeId} {size : Nat} {F : Nat → List Value} {w w' : World} {base : Nat} {os : List (Nat × GA)}
theorem FamG.sub {qs : List (Nat × GA)} (h : FamG e size F w base os) (hs : ∀ x ∈ qs, x ∈ os) : FamG e size F w base qs := ⟨fun x hx => h.all x (hs x hx), fun x hx => h.pre x (hs x hx), fun x hx y hy => h.pair x (hs x hx) y (hs y hy)⟩
theorem FamG.kept {row : Option Nat} (h : FamG e size F w base os) (hgr : w.grownBy w' row) (hne : ∀ x ∈ os, ∀ ad, x.2.2.2.1 = some ad → some ad.block ≠ row) : FamG e size F w' base os := by
  refine ⟨fun x hx => (h.all x hx).kept hgr ?_, h.pre, h.pair⟩
  unfold GA.val
  cases hA : x.2.2.2.1 with
  | none => exact .inl rfl
  | some ad => exact .inr fun e => hne x hx ad hA e
theorem FamG.next (h : FamG e size F w base os) (hb : Below w.heap.size w w') : FamG e size F w' base os := h.kept (grown_of_below hb) (by simp)
theorem FamG.ne_own {base' size' n : Nat} {e' : TypeId} {v : Value} {xs : List Value} (h : FamG e size F w base os) (ho : w.ownsRow base' e' size' v n xs) (hne : e ≠ e') : ∀ x ∈ os, ∀ ad, x.2.2.2.1 = some ad → some ad.block ≠ v.ownBlock := fun x hx ad hA he => by
  have h1 := h.all x hx
  unfold GA.val at h1
  rw [hA] at h1
  rcases own_ty_ne h1 ho hne with h2 | h2
  · cases h2
  · exact h2 he
theorem FamG.ne_blk {g : Nat} {t : TypeId} {cs : Array Value} (h : FamG e size F w base os) (hg : Blk w g t cs) (hne : e ≠ t) : ∀ x ∈ os, ∀ ad, x.2.2.2.1 = some ad → some ad.block ≠ some g := fun x hx ad hA he => by
  have h1 := h.all x hx
  unfold GA.val at h1
  rw [hA] at h1
  exact own_blk_ne h1 hg hne he
theorem FamG.append (h : FamG e size F w base os) {t n c m : Nat} {A : Option Addr} {xs news : List Value} (hx : (t, xs, n, A, c) ∈ os) (hp : xs ++ news <+: F t) {A1 : Option Addr} {c1 : Nat} {w1 : World} (hG : GrewG e size w base A c n xs news m A1 c1 w1) :
    FamG e size F w1 base ((t, xs ++ news, n + m, A1, c1) :: os) := by
  have hold : ∀ y ∈ os, w1.ownsRow base e size y.2.val y.2.2.1 y.2.1 := fun y hy => by
    rcases h.pair y hy _ hx with hap | ⟨ht, hloc⟩
    · refine (h.all y hy).kept hG.grown ?_
      unfold GA.val
      cases hyA : y.2.2.2.1 with
      | none => exact .inl rfl
      | some ad =>
        refine .inr fun e2 => ?_
        cases hA : A with
        | none => rw [hA] at e2; cases e2
        | some ad' =>
          rw [hA] at e2
          injection e2 with e2
          exact hap ad ad' hyA hA e2
    · have e1 : y.2.2.2.1 = A := congrArg Prod.fst hloc
      have e2 : y.2.2.2.2 = c := congrArg Prod.snd hloc
      have hy' := h.all y hy
      unfold GA.val at hy' ⊢
      rw [e1, e2] at hy' ⊢
      exact hG.also _ _ hy' (agreesG_of_prefix (by have := h.pre y hy; rwa [show y.1 = t from ht] at this) hp)
  have hrel : ∀ y ∈ os, Apart y.2.2.2.1 A1 ∨ (y.1 = t ∧ y.2.2.2 = (A1, c1)) := fun y hy => by
    rcases hG.lies with ⟨rfl, rfl⟩ | ⟨_, hnew⟩
    · exact h.pair y hy _ hx
    · refine .inl fun a b ha hb e2 => ?_
      have h1 := (own_lt_at (h.all y hy) ha).2
      have h2 := hnew b hb
      omega
  refine ⟨fun y hy => ?_, fun y hy => ?_, fun x hx y hy => ?_⟩
  · rcases List.mem_cons.1 hy with rfl | hy
    · exact hG.made
    · exact hold y hy
  · rcases List.mem_cons.1 hy with rfl | hy
    · exact hp
    · exact h.pre y hy
  · rcases List.mem_cons.1 hx with rfl | hx <;> rcases List.mem_cons.1 hy with rfl | hy
    · exact .inr ⟨rfl, rfl⟩
    · rcases hrel y hy with h1 | ⟨h1, h2⟩
      · exact .inl h1.symm
      · exact .inr ⟨h1.symm, h2.symm⟩
    · exact hrel x hx
    · exact h.pair x hx y hy
end
def taggedG (os : List GA) : List (Nat × GA) := os.zipIdx.map fun x => (x.2, x.1)
theorem taggedG_mem {os : List GA} {x : Nat × GA} : x ∈ taggedG os ↔ os[x.1]? = some x.2 := by
  unfold taggedG
  rw [List.mem_map]
  constructor
  · rintro ⟨⟨y, i⟩, hy, rfl⟩
    rw [List.mem_zipIdx_iff_getElem?] at hy
    simpa using hy
  · intro h
    exact ⟨(x.2, x.1), by rw [List.mem_zipIdx_iff_getElem?]; simpa using h, rfl⟩
theorem FamG.of_rows {e : TypeId} {size : Nat} {F : Nat → List Value} {w : World} {base : Nat} {os : List GA} (h : OGs e size w base os) (hp : ∀ i x, os[i]? = some x → x.1 <+: F i) : FamG e size F w base (taggedG os) := by
  refine ⟨fun x hx => h.all _ (List.mem_of_getElem? (taggedG_mem.1 hx)), fun x hx => hp _ _ (taggedG_mem.1 hx), fun x hx y hy => ?_⟩
  by_cases e1 : x.1 = y.1
  · have h1 := taggedG_mem.1 hx
    have h2 := taggedG_mem.1 hy
    rw [e1, h2] at h1
    injection h1 with h1
    exact .inr ⟨e1, by rw [h1]⟩
  · exact .inl (h.others (taggedG_mem.1 hy) (taggedG_mem.1 hx) e1)
end Go.Proofs.YtikodgaomhmbmaaDoor
namespace Go.Proofs.YtikodgaomhmbmaaDoor
open Go.RowKit
attribute [local go_sem] Rec.size_ Rec.g0 Rec.g1 Rec.g2 Rec.g3 Rec.g4 Rec.g5 Rec.g6 Rec.g7 Rec.g8 Rec.g9 Rec.g10 Rec.g11 Rec.fold Rec.lit_fold

theorem same_any (a : Rec) (A B : Option Addr) (c d : Nat) (w : World) (ha : RB w A a.Data) (hb : RB w B a.Data) (hl : a.Data.length ≤ 140737488351232) :
    Calls Tryd.prog 42 #[.agg (a.cells A c), .agg (a.cells B d)] w fun e w' => e = .returned (.bool true) ∧ Below w.heap.size w w' := by
  have := refSame_calls a a A B c d w ha hb hl hl
  rwa [Rec.same_self] at this
theorem map_len {l m : List RA} (h : m.map (·.1) = l.map (·.1)) : m.length = l.length := by have := congrArg List.length h; simpa using this
theorem map_fits {l m : List RA} (h : m.map (·.1) = l.map (·.1)) (hf : ∀ y ∈ l, y.1.Fits) : ∀ y ∈ m, y.1.Fits := fun y hy => by
  have : y.1 ∈ l.map (·.1) := h ▸ List.mem_map.2 ⟨y, hy, rfl⟩
  obtain ⟨z, hz, e⟩ := List.mem_map.1 this
  rw [← e]
  exact hf z hz
theorem RR.of_own {w : World} {base n c : Nat} {A : Option Addr} {e : TypeId} {os : List RA} (h : w.ownsRow base e 12 (.slice A n c) n (recCells os)) (hn : os.length = n) (hS : RUs w os) : RR w A os :=
  ⟨by subst hn; exact Reads.of_own h, fun x hx => (hS x hx).rb⟩
theorem RR.prefix {w : World} {A : Option Addr} {os ps : List RA} (h : RR w A (os ++ ps)) : RR w A os := by
  refine ⟨⟨by rw [recCells_length], fun hn => ?_⟩, fun x hx => h.data x (List.mem_append_left _ hx)⟩
  obtain ⟨ad, e, hb, hc⟩ := h.row.2 (by rw [List.length_append]; omega)
  refine ⟨ad, e, hb, fun j u hu => hc j u ?_⟩
  have hj : j < (recCells os).length := (List.getElem?_eq_some_iff.1 hu).1
  rw [recCells_append, List.getElem?_append_left hj]
  exact hu
theorem own_apart_app {w : World} {b s n : Nat} {e : TypeId} {v v7 v7' : Value} {xs : List Value} (h : w.ownsRow b e s v n xs) (d : v.ownBlock = none ∨ v.ownBlock ≠ v7.ownBlock) (hat : v7'.ownBlock = v7.ownBlock ∨ v7'.ownBlock = some w.heap.size) : v.ownBlock = none ∨ v.ownBlock ≠ v7'.ownBlock := by
  rcases hat with e | e
  · rw [e]; exact d
  · rw [e]
    cases hv : v.ownBlock with
    | none => exact .inl rfl
    | some k =>
      refine .inr fun h' => ?_
      have := own_lt h k hv
      injection h' with h'
      omega

theorem own_blk_far {w : World} {b s n g : Nat} {e : TypeId} {v : Value} {xs : List Value} (h : w.ownsRow b e s v n xs) (hg : g < b) : v.ownBlock ≠ some g := fun he => by
  have := own_base h g he
  omega
theorem own_blk_app {w : World} {v7 v7' : Value} {g : Nat} (d : v7.ownBlock ≠ some g) (hg : g < w.heap.size) (hat : v7'.ownBlock = v7.ownBlock ∨ v7'.ownBlock = some w.heap.size) : v7'.ownBlock ≠ some g := by
  rcases hat with e | e
  · rw [e]; exact d
  · rw [e]
    intro h
    injection h with h
    omega

/-! ### UpAll and Steps, both at once -/
set_option maxHeartbeats 2000000 in
set_option maxRecDepth 100000 in
/-- Two lists of the same records. -/
theorem refSameAll_calls (l m : List RA) (A B : Option Addr) (c d : Nat) (hlm : l.map (·.1) = m.map (·.1)) (hl : l.length ≤ 140737488351232) (hfit : ∀ y ∈ l, y.1.Fits) (w : World) (ha : RR w A l) (hb : RR w B m) :
    Calls Tryd.prog 25 #[.slice A l.length c, .slice B m.length d] w fun e w' => e = .returned (.bool true) ∧ Below w.heap.size w w' := by
  have HB := Below.refl w.heap.size w
  have hlen : m.length = l.length := by have := congrArg List.length hlm; simpa using this.symm
  rw [hlen]
  have t1 : ((l.length : Int) != (l.length : Int)) = false := by simp
  have Hlm := Lib.hid hlm
  have Ha := Lib.hid ha
  have Hb := Lib.hid hb
  have Hfit := Lib.hid hfit
  have Hlen := Lib.hid hlen
  clear hlm ha hb hfit hlen
  go_enter Tryd.func25, Tryd.ntmps25
  go_wp2
  go_loopg [5] l.length (fun n v5 wr => ∃ k : Nat, n + k = l.length ∧ v5 = .int .i64 k ∧ Aside (Below w.heap.size w wr))
  case atStart => exact ⟨0, by omega, rfl, HB⟩
  case round =>
    clear HB
    obtain ⟨k, hn, rfl, HA⟩ := hrel
    have HB := HA.out
    clear HA
    by_cases hlt : k < l.length
    · have s1 : decide ((k : Int) < (l.length : Int)) = true := by rw [decide_eq_true_eq]; omega
      have s1' : decide (k < l.length) = true := by rw [decide_eq_true_eq]; exact hlt
      obtain ⟨x, hx⟩ : ∃ x, l[k]? = some x := ⟨l[k], List.getElem?_eq_getElem hlt⟩
      obtain ⟨y, hy⟩ : ∃ y, m[k]? = some y := ⟨_, List.getElem?_eq_getElem (by rw [Hlen.out]; exact hlt)⟩
      have hxy : x.1 = y.1 := by
        have h := congrArg (fun z => z[k]?) Hlm.out
        simp only [List.getElem?_map, hx, hy, Option.map_some, Option.some.injEq] at h
        exact h
      obtain ⟨r, Ar, cr⟩ := x
      obtain ⟨r', Br, dr⟩ := y
      simp only at hxy
      subst hxy
      have hxf : r.Fits := Hfit.out _ (List.mem_of_getElem? hx)
      have hxd : RB w Ar r.Data := Ha.out.data _ (List.mem_of_getElem? hx)
      have hyd : RB w Br r.Data := Hb.out.data _ (List.mem_of_getElem? hy)
      have hrl := hxf.data
      obtain ⟨ad, had, _, _⟩ := Ha.out.get hx
      obtain ⟨bd, hbd, _, _⟩ := Hb.out.get hy
      have hld := fun (W : World) (hb : Below w.heap.size w W) => (Ha.out.next hb).load hx had
      have hmd := fun (W : World) (hb' : Below w.heap.size w W) => (Hb.out.next hb').load hy hbd
      have Hld := Lib.hid hld
      have Hmd := Lib.hid hmd
      subst had
      subst hbd
      clear hx hy hld hmd hxf
      go_wp2
      refine held_start (fun w' => Below w.heap.size w w') (by kernel_rfl) (fun wd hbd => ?_)
      replace HB := below_go HB hbd
      refine take_at (i := 0) (v := .slice (some ad) l.length c) 18 rfl rfl (by kernel_rfl) (by kernel_rfl) (by kernel_rfl) (fun _ _ _ h => h) (.inl ⟨rfl, fun w h => by simp [go_sem]⟩) HB ?_
      simp only [Act.put, List.getElem_toArray, List.getElem_cons_succ, List.getElem_cons_zero, List.setIfInBounds_toArray, List.set_cons_succ, List.set_cons_zero]
      refine take_at (i := 1) (v := .int .i64 k) 19 rfl rfl (by kernel_rfl) (by kernel_rfl) (by kernel_rfl) (fun _ _ _ h => h) (.inl ⟨rfl, fun w h => by simp [go_sem]⟩) HB ?_
      simp only [Act.put, List.getElem_toArray, List.getElem_cons_succ, List.getElem_cons_zero, List.setIfInBounds_toArray, List.set_cons_succ, List.set_cons_zero]
      refine take_at (i := 2) (v := .pointer (some (ad.add (k * 12)))) 20 rfl rfl (by kernel_rfl) (by kernel_rfl) (by kernel_rfl) (fun _ _ _ h => h) (.inl ⟨rfl, fun w h => by simp [go_sem, hlt]⟩) HB ?_
      simp only [Act.put, List.getElem_toArray, List.getElem_cons_succ, List.getElem_cons_zero, List.setIfInBounds_toArray, List.set_cons_succ, List.set_cons_zero]
      refine take_at (i := 3) (v := .agg (r.cells Ar cr)) 21 rfl rfl (by kernel_rfl) (by kernel_rfl) (by kernel_rfl) (fun _ _ _ h => h) (yields_at rfl rfl rfl (fun w h => Hld.out w h) Tryd.underlying27 rfl rec_size) HB ?_
      simp only [Act.put, List.getElem_toArray, List.getElem_cons_succ, List.getElem_cons_zero, List.setIfInBounds_toArray, List.set_cons_succ, List.set_cons_zero]
      refine take_at (i := 4) (v := .slice (some bd) l.length d) 22 rfl rfl (by kernel_rfl) (by kernel_rfl) (by kernel_rfl) (fun _ _ _ h => h) (.inl ⟨rfl, fun w h => by simp [go_sem]⟩) HB ?_
      simp only [Act.put, List.getElem_toArray, List.getElem_cons_succ, List.getElem_cons_zero, List.setIfInBounds_toArray, List.set_cons_succ, List.set_cons_zero]
      refine take_at (i := 5) (v := .int .i64 k) 23 rfl rfl (by kernel_rfl) (by kernel_rfl) (by kernel_rfl) (fun _ _ _ h => h) (.inl ⟨rfl, fun w h => by simp [go_sem]⟩) HB ?_
      simp only [Act.put, List.getElem_toArray, List.getElem_cons_succ, List.getElem_cons_zero, List.setIfInBounds_toArray, List.set_cons_succ, List.set_cons_zero]
      refine take_at (i := 6) (v := .pointer (some (bd.add (k * 12)))) 24 rfl rfl (by kernel_rfl) (by kernel_rfl) (by kernel_rfl) (fun _ _ _ h => h) (.inl ⟨rfl, fun w h => by simp [go_sem, hlt]⟩) HB ?_
      simp only [Act.put, List.getElem_toArray, List.getElem_cons_succ, List.getElem_cons_zero, List.setIfInBounds_toArray, List.set_cons_succ, List.set_cons_zero]
      refine take_at (i := 7) (v := .agg (r.cells Br dr)) 25 rfl rfl (by kernel_rfl) (by kernel_rfl) (by kernel_rfl) (fun _ _ _ h => h) (yields_at rfl rfl rfl (fun w h => Hmd.out w h) Tryd.underlying27 rfl rec_size) HB ?_
      simp only [Act.put, List.getElem_toArray, List.getElem_cons_succ, List.getElem_cons_zero, List.setIfInBounds_toArray, List.set_cons_succ, List.set_cons_zero]
      refine held_one (i := 8) (by kernel_rfl) rfl ?_
      (refine ev_call2 rfl rfl ⟨_, _, Tryd.func42, by kernel_rfl, rfl⟩ rfl rfl ?_; refine Calls.mono (same_any r Ar Br cr dr _ (hxd.next HB) (hyd.next HB) hrl) ?_; rintro e W1 ⟨rfl, hb⟩; refine ⟨_, rfl, ?_⟩; have hgr := grown_of_below hb; replace HB := HB.grown hgr (by have := HB.size; omega) (by simp); clear hb hgr)
      refine ⟨HB, ?_⟩
      try simp only [Act.put, List.getElem_toArray, List.getElem_cons_succ, List.getElem_cons_zero, List.setIfInBounds_toArray, List.set_cons_succ, List.set_cons_zero]
      refine held_one (i := 9) (by kernel_rfl) rfl ?_
      refine ev_run rfl (w1 := W1) (v := .bool true) (by simp [go_sem]) ?_
      refine ⟨HB, ?_⟩
      simp only [Act.put, List.setIfInBounds_toArray, List.set_cons_succ, List.set_cons_zero]
      refine wpAnyH_done (by kernel_rfl) ?_ _
      go_wp2
      go_roundg (gk - 1)
      case measure => omega
      case rel => exact ⟨k + 1, by omega, by go_num, HB⟩
    · have s1 : decide ((k : Int) < (l.length : Int)) = false := by rw [decide_eq_false_iff_not]; omega
      have s1' : decide (k < l.length) = false := by rw [decide_eq_false_iff_not]; exact hlt
      go_wp2
      go_ret
      exact ⟨rfl, HB⟩

theorem refClone_ob (r : Rec) (A : Option Addr) (c : Nat) (w : World) (hr : RB w A r.Data) (hl : r.Data.length ≤ 140737488351232) :
    Calls Tryd.prog 46 #[.agg (r.cells A c)] w fun e w' => ∃ A' c', e = .returned (.agg (r.cells A' c')) ∧ OB w' w.heap.size A' c' r.Data ∧ Below w.heap.size w w' :=
  (refClone_calls r A c w hr hl).mono fun e w' ⟨A', c', he, ho, hb⟩ => ⟨A', c', he, OB.of_own ho, hb⟩
/-- What CloneAll hands out. -/
def CloneSaid (l : List RA) (w : World) (e : Ending) (w' : World) : Prop :=
  ∃ (A' : Option Addr) (c' : Nat) (os : List RA), e = .returned (.slice A' os.length c') ∧ os.map (·.1) = l.map (·.1) ∧ w'.ownsRow w.heap.size 27 12 (.slice A' os.length c') os.length (recCells os) ∧ OBs w' w.heap.size (bs os) ∧ Below w.heap.size w w'
set_option maxHeartbeats 2000000 in
set_option maxRecDepth 100000 in
theorem cloneAll_calls (l : List RA) (A : Option Addr) (c : Nat) (hl : l.length * 120 ≤ 140737488351232) (hfit : ∀ y ∈ l, y.1.Fits) (w : World) (hr : RR w A l) :
    Calls Tryd.prog 36 #[.slice A l.length c] w (CloneSaid l w) := by
  have HB := Below.refl w.heap.size w
  have Hr := Lib.hid hr
  have Hfit := Lib.hid hfit
  clear hr hfit
  unfold CloneSaid
  go_enter Tryd.func36, Tryd.ntmps36
  go_wp2
  go_loopg [3, 4] l.length (fun n v3 v4 wr => ∃ (k : Nat) (A' : Option Addr) (c' : Nat) (os : List RA), n + k = l.length ∧ v4 = .int .i64 k ∧ v3 = .slice A' os.length c' ∧
    Aside (os.length = k ∧ os.map (·.1) = (l.map (·.1)).take k ∧ wr.ownsRow w.heap.size 27 12 (.slice A' os.length c') os.length (recCells os) ∧ OBs wr w.heap.size (bs os) ∧ Below w.heap.size w wr))
  case atStart => exact ⟨0, none, 0, [], by omega, rfl, rfl, ⟨rfl, rfl, own_nil _ _ _ _, OBs.nil, HB⟩⟩
  case round =>
    clear HB
    obtain ⟨k, A2, c2, os, hn, rfl, rfl, HA⟩ := hrel
    obtain ⟨hok, hos, o1, Qo, HB⟩ := HA.out
    clear HA
    have Hok := Lib.hid hok
    have Hos := Lib.hid hos
    clear hos hok
    by_cases hlt : k < l.length
    · have s1 : decide ((k : Int) < (l.length : Int)) = true := by rw [decide_eq_true_eq]; omega
      have s1' : decide (k < l.length) = true := by rw [decide_eq_true_eq]; exact hlt
      obtain ⟨x, hx⟩ : ∃ x, l[k]? = some x := ⟨l[k], List.getElem?_eq_getElem hlt⟩
      obtain ⟨r, Ar, cr⟩ := x
      have hxm : (l.map (·.1))[k]? = some r := by rw [List.getElem?_map, hx]; rfl
      have hxf : r.Fits := Hfit.out _ (List.mem_of_getElem? hx)
      have hrl := hxf.data
      have hxd : RB w Ar r.Data := Hr.out.data _ (List.mem_of_getElem? hx)
      obtain ⟨ad, had, hadlt, _⟩ := Hr.out.get hx
      have hld := fun (W : World) (hb : Below w.heap.size w W) => (Hr.out.next hb).load hx had
      have Hld := Lib.hid hld
      subst had
      have n3 : (l.map (·.1)).take (k + 1) = (l.map (·.1)).take k ++ [r] := by rw [List.take_add_one, hxm]; rfl
      have N3 := Lib.hid n3
      clear hx hld n3 hxm
      go_wp2_with (first
        | ((with_reducible refine gate_dst (N := 15) rfl ?_); refine ev_load_at rfl rfl rfl (Hld.out _ HB) Tryd.underlying27 rfl rec_size ?_)
        | (go_at_call 46; (with_reducible refine (refClone_ob r Ar cr _ (hxd.next HB) hrl).mono ?_); rintro e W1 ⟨A5, c5, rfl, B5, hb⟩; have hgr := grown_of_below hb; have dQoB5 := Qo.apart_new B5 (Nat.le_refl _); replace B5 := B5.mono HB.size; replace Qo := Qo.kept hgr (by simp); replace o1 := o1.kept hgr (by cases Value.ownBlock _ <;> simp); replace HB := HB.grown hgr (by have := HB.size; omega) (by simp); clear hb hgr)
        | ((with_reducible refine gate_dst (N := 5) rfl ?_); refine ev_alloc rfl rfl _ rec_zero ?_; intro g3 W2 hg3 hsz hbn; have hgr := grown_of_below hbn; have no1g3 := own_new o1 hsz; replace hg3 : Blk W2 g3 _ (Rec.zero.cells none 0) := hg3; have zg3 : w.heap.size ≤ g3 := (by have := HB.size; omega); replace B5 := B5.kept hgr (by simp); replace Qo := Qo.kept hgr (by simp); replace o1 := o1.kept hgr (by cases Value.ownBlock _ <;> simp); replace HB := HB.grown hgr (by have := HB.size; omega) (by simp); have hcg3 := hg3.cell; have hfg3 := hg3.frozen; clear hsz hbn hgr)
        | ((with_reducible refine gate_store (p := 5) rfl ?_); refine ev_store_row (cs := r.cells A5 c5) rfl rfl rfl hg3 rfl rfl rec_size rfl (cells_one _ _ _) ?_; intro W3 hgn hgr; replace B5 := B5.kept hgr (OB.ne_blk B5 hg3 (by decide)); replace Qo := Qo.kept hgr (OBs.ne_blk Qo hg3 (by decide)); replace o1 := o1.kept hgr (.inr no1g3); replace HB := HB.grown hgr (by have := HB.size; omega) (by intro k e; injection e with e; omega); replace hg3 := hgn; replace hcg3 := hg3.cell; replace hfg3 := hg3.frozen; clear hgn hgr)
        | ((with_reducible refine gate_dst (N := 18) rfl ?_); refine wpList_load_row rfl _ _ rfl g3 rfl _ _ (0, 0) _ hg3 Tryd.underlying27 rfl rec_size ?_)
        | ((with_reducible refine gate_dst (N := 19) rfl ?_); refine ev_lit rfl rfl (r.cells A5 c5) 27 1 (by first | (go_simp; done) | (go_simp; rfl)) ?_; intro g5 W4 hg5 hsz hbn; have hgr := grown_of_below hbn; have ng3g5 : g3 ≠ g5 := (by have := hg3.lt; omega); have zg5 : w.heap.size ≤ g5 := (by have := HB.size; omega); replace B5 := B5.kept hgr (by simp); replace Qo := Qo.kept hgr (by simp); replace hg3 := hg3.grown hgr (by simp); replace o1 := o1.kept hgr (by cases Value.ownBlock _ <;> simp); replace HB := HB.grown hgr (by have := HB.size; omega) (by simp); have hcg5 := hg5.cell; have hfg5 := hg5.frozen; replace hcg3 := hg3.cell; replace hfg3 := hg3.frozen; clear hsz hbn hgr)
        | ((with_reducible refine gate_dst (N := 20) rfl ?_); refine ev_append rfl rfl Tryd.underlying22 info_rec rfl (by omega) rfl o1 rfl (hg5.reads (size := 12) (n := 1) rfl) (recCells_1 (l := [(r, A5, c5)])) (by have := Hok.out; omega) (by omega) (by have := HB.size; omega) ?_; intro A6 c6 W5 on hgr hat; replace B5 := B5.kept hgr (OB.ne_own B5 o1 (by decide)); replace Qo := Qo.kept hgr (OBs.ne_own Qo o1 (by decide)); replace hg3 := hg3.grown hgr (fun e => no1g3 e.symm); replace HB := HB.grown hgr (by have := HB.size; omega) (own_base o1); replace o1 := on; replace hcg3 := hg3.cell; replace hfg3 := hg3.frozen; clear on hgr hat))
      go_roundg (gk - 1)
      case measure => omega
      case rel => exact ⟨k + 1, A6, c6, os ++ [(r, A5, c5)], by omega, by go_num, by simp, ⟨by simp [Hok.out], by rw [List.map_append, Hos.out, N3.out]; rfl, by rw [recCells_append, recCells_one]; simpa [RA.cs] using o1, by rw [bs_snoc]; exact Qo.snoc B5 dQoB5, HB⟩⟩
    · have s1 : decide ((k : Int) < (l.length : Int)) = false := by rw [decide_eq_false_iff_not]; omega
      have s1' : decide (k < l.length) = false := by rw [decide_eq_false_iff_not]; exact hlt
      obtain rfl : k = l.length := by omega
      have n3 : os.map (·.1) = l.map (·.1) := by rw [Hos.out, List.take_of_length_le (by simp)]
      go_wp2
      go_ret
      exact ⟨A2, c2, os, rfl, n3, o1, Qo, HB⟩
theorem cloneAll_n (l : List RA) (n : Nat) (hn : l.length = n) (A : Option Addr) (c : Nat) (hl : n * 120 ≤ 140737488351232) (hfit : ∀ y ∈ l, y.1.Fits) (w : World) (hr : RR w A l) :
    Calls Tryd.prog 36 #[.slice A n c] w fun e w' => ∃ (A' : Option Addr) (c' : Nat) (os : List RA), e = .returned (.slice A' n c') ∧ Aside (os.map (·.1) = l.map (·.1)) ∧ w'.ownsRow w.heap.size 27 12 (.slice A' n c') n (recCells os) ∧ OBs w' w.heap.size (bs os) ∧ Below w.heap.size w w' := by
  subst hn
  refine (cloneAll_calls l A c hl hfit w hr).mono fun e w' ⟨A', c', os, he, hos, ho, hS, hb⟩ => ?_
  rw [map_len hos] at he ho
  exact ⟨A', c', os, he, hos, ho, hS, hb⟩
end Go.Proofs.YtikodgaomhmbmaaDoor
