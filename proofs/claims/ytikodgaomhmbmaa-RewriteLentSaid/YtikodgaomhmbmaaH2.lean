/-
  append onto a row of bytes of one's own: in place where there is room, else into a new row; what else lies in the row and agrees with what is written stays.
-/
import Derived.Test.YtikodgaomhmbmaaD0
set_option linter.unusedVariables false
set_option linter.unusedSimpArgs false
namespace Go.Proofs.Ytikodgaomhmbmaa
open Go.RowKit

/-- Where both lists have an element they have the same. -/
def Agrees (m k : List UInt8) : Prop := ∀ (j : Nat) (x y : UInt8), m[j]? = some x → k[j]? = some y → x = y
theorem run_storeCells_ob (P : Program) (g o : Nat) (t : TypeId) (fz : Nat × Nat) : ∀ (vs : List Value) (i : Nat) (cur : Array Value) (w : World), w.heap[g]? = some (.cells cur t fz) → (fz.2 = 0 ∨ cur.size ≤ fz.1) → o + i + vs.length ≤ cur.size → (∀ v ∈ vs, v.oneCell' = true) →
    ∃ (w' : World) (cur' : Array Value), (storeCells ⟨g, o, none⟩ vs i).run P w = .ok () w' ∧ w'.heap[g]? = some (.cells cur' t fz) ∧ cur'.size = cur.size ∧ (∀ j, j < o + i → cur'[j]? = cur[j]?) ∧ (∀ j, j < vs.length → cur'[o + i + j]? = vs[j]?) ∧ (∀ j, o + i + vs.length ≤ j → cur'[j]? = cur[j]?) ∧ w.grownBy w' (some g)
  | [], i, cur, w, hg, _, _, _ => ⟨w, cur, by simp [storeCells], hg, rfl, fun _ _ => rfl, fun j hj => absurd hj (by simp), fun _ _ => rfl, World.grownBy.refl w _⟩
  | v :: rest, i, cur, w, hg, hz, hl, h1 => by
    have hi : o + i < cur.size := by simp at hl; omega
    have hadd : (⟨g, o, none⟩ : Addr).add i = ⟨g, o + i, none⟩ := by unfold Addr.add; split <;> simp_all
    have hcell : w.cell? ⟨g, o + i, none⟩ = some cur[o + i] := by simp [World.cell?, hg, hi]
    have hfro : w.frozen? ⟨g, o + i, none⟩ = false := by
      obtain ⟨lo, hi'⟩ := fz
      simp only [World.frozen?, hg, Bool.and_eq_false_iff, decide_eq_false_iff_not]
      simp only at hz
      omega
    have hst : (store ((⟨g, o, none⟩ : Addr).add i) v).run P w = .ok () (w.setCell ⟨g, o + i, none⟩ v) := by
      rw [hadd, run_store P w _ v _ (h1 v (by simp)), hcell]
      simp [hfro]
    have hh : (w.setCell ⟨g, o + i, none⟩ v).heap[g]? = some (.cells (cur.setIfInBounds (o + i) v) t fz) := by simp [World.setCell, Array.getElem?_modify, hg]
    obtain ⟨w', cur', hr, a1, a2, a3, a4, a5, a6⟩ := run_storeCells_ob P g o t fz rest (i + 1) (cur.setIfInBounds (o + i) v) (w.setCell ⟨g, o + i, none⟩ v) hh (by simpa using hz) (by simp at hl ⊢; omega) (fun x hx => h1 x (by simp [hx]))
    refine ⟨w', cur', ?_, a1, by simpa using a2, fun j hj => ?_, fun j hj => ?_, fun j hj => ?_, ?_⟩
    · simp only [storeCells, Sem.run_bind, hst, Result.andThen_ok, hr]
    · rw [a3 j (by omega), Array.getElem?_setIfInBounds]
      rw [if_neg (by omega)]
    · cases j with
      | zero =>
        rw [Nat.add_zero, a3 (o + i) (by omega), Array.getElem?_setIfInBounds]
        simp [hi]
      | succ j =>
        have := a4 j (by simpa using hj)
        rw [show o + i + (j + 1) = o + (i + 1) + j by omega, this]
        simp
    · have hj' : o + i + (rest.length + 1) ≤ j := by simpa using hj
      rw [a5 j (by omega), Array.getElem?_setIfInBounds, if_neg (by omega)]
    · have h0 : w.grownBy (w.setCell ⟨g, o + i, none⟩ v) (some g) := ⟨rfl, rfl, rfl, by simp [World.setCell], fun i _ hne => Below.heap_setCell _ _ _ _ (fun e => hne (by rw [e]))⟩
      exact h0.trans a6

/-- What an append onto such a row leaves. -/
structure Grew (w : World) (base : Nat) (A : Option Addr) (c : Nat) (l l' : List UInt8) (A1 : Option Addr) (c1 : Nat) (w1 : World) : Prop where
  made : OB w1 base A1 c1 (l ++ l')
  old : OB w1 base A c l
  grown : w.grownBy w1 (A.map (·.block))
  lies : (A1 = A ∧ c1 = c) ∨ (w.grownBy w1 none ∧ ∀ ad, A1 = some ad → w.heap.size ≤ ad.block)
  also : ∀ m, OB w base A c m → Agrees m (l ++ l') → OB w1 base A c m

set_option maxRecDepth 100000 in
theorem run_append_ob (w : World) {base : Nat} {A : Option Addr} {c : Nat} {l : List UInt8} (h : OB w base A c l) (hbase : base ≤ w.heap.size) (ad : Addr) (l' : List UInt8) (c' : Nat) (hnews : ∀ j u, (u8s l')[j]? = some u → w.cell? (ad.add j) = some u) (ty : TypeId) (hb : l.length + l'.length ≤ 140737488355328) :
    ∃ A1 c1 w1, (Builtin.append_ #[23, 23] ty #[.slice A l.length c, .slice (some ad) l'.length c']).run Try.prog w = .ok (.slice A1 (l.length + l'.length) c1) w1 ∧ Grew w base A c l l' A1 c1 w1 := by
  obtain ⟨i0, hi, hz0, hz1, hz2⟩ := info_parts info_u8
  have hut := Try.underlying23
  have h0 := h
  rcases h with ⟨rfl, rfl, rfl⟩ | ⟨g, cur, fz, rfl, hbg, hh, hfz, hlc, hcs, ht⟩
  · obtain ⟨v', w1, hrun, ho, hg, _, hat⟩ := run_append_own_at (P := Try.prog) w w.heap.size 23 ty 5 i0 (.int .u8 0) 1 1 hut hi hz0 hz1 hz2 rfl (by decide) (.slice none 0 0) 0 [] (own_nil w _ _ _) ad l'.length c' (u8s l') (by simp [u8s]) hnews u8s_one (by simp only [maxLen]; simp at hb; omega) (by simpa using hb) (Nat.le_refl _)
    obtain ⟨A1, c1, rfl⟩ := own_slice ho
    have hg' : w.grownBy w1 none := hg
    have hO : OB w1 w.heap.size A1 c1 l' := OB.of_own (by simpa using ho)
    refine ⟨A1, c1, w1, by simpa using hrun, ⟨by simpa using hO.mono hbase, OB.nil, hg', .inr ⟨hg', fun ad' e => (hO.lt e).1⟩, fun m hm _ => hm.kept hg' (by simp)⟩⟩
  · by_cases hroom : l.length + l'.length ≤ c
    · have hf := run_firstCells_some (P := Try.prog) w i0.size l'.length ad l'.length c' (u8s l') (by simp [hz1, u8s]) hnews
      obtain ⟨w1, cur1, hst, a1, a2, a3, a4, a5, a6⟩ := run_storeCells_ob Try.prog g l.length 5 fz (u8s l') 0 cur w hh hfz (by simp [u8s]; omega) u8s_one
      have hcur : ∀ j, j < l.length → cur[j]? = (u8s l)[j]? := fun j hj => by rw [← ht, List.getElem?_take, if_pos hj]; simp
      have hnew : cur1.toList.take (l ++ l').length = u8s (l ++ l') := by
        apply List.ext_getElem?
        intro j
        rw [List.getElem?_take, u8s_append]
        by_cases hj : j < l.length
        · rw [if_pos (by simp; omega), List.getElem?_append_left (by simpa [u8s] using hj), Array.getElem?_toList, a3 j (by omega), hcur j hj]
        · rw [List.getElem?_append_right (by simp [u8s]; omega)]
          by_cases hj2 : j < l.length + l'.length
          · rw [if_pos (by simpa using hj2), Array.getElem?_toList]
            have := a4 (j - l.length) (by simp [u8s]; omega)
            rw [show l.length + 0 + (j - l.length) = j by omega] at this
            rw [this, u8s_length]
          · rw [if_neg (by simpa using hj2), List.getElem?_eq_none (by simp [u8s]; omega)]
      refine ⟨some ⟨g, 0, none⟩, c, w1, ?_, ⟨.inr ⟨g, cur1, fz, rfl, hbg, a1, by rwa [a2], by simpa using hroom, by omega, hnew⟩, .inr ⟨g, cur1, fz, rfl, hbg, a1, by rwa [a2], hlc, by omega, ?_⟩, a6, .inl ⟨rfl, rfl⟩, ?_⟩⟩
      · simp [Builtin.append_, run_underlying hut, sizeOf, typeInfo, hi, hz1, Builtin.lenOf, hroom, hz1 ▸ hf, Addr.add_lit, hst]
      · rw [← ht]
        apply List.ext_getElem?
        intro j
        rw [List.getElem?_take, List.getElem?_take]
        by_cases hj : j < l.length
        · rw [if_pos hj, if_pos hj, Array.getElem?_toList, Array.getElem?_toList, a3 j (by omega)]
        · rw [if_neg hj, if_neg hj]
      · intro m hm hag
        rcases hm with ⟨e, _⟩ | ⟨g', cur', fz', e, _, hh', hfz', hmc, _, htm⟩
        · cases e
        · injection e with e
          injection e with e
          subst e
          rw [hh] at hh'
          injection hh' with hh'
          injection hh' with e1 _ e3
          subst e1
          subst e3
          refine .inr ⟨g, cur1, fz, rfl, hbg, a1, by rwa [a2], hmc, by omega, ?_⟩
          apply List.ext_getElem?
          intro j
          rw [List.getElem?_take]
          by_cases hj : j < m.length
          · rw [if_pos hj, Array.getElem?_toList]
            have hmj : cur[j]? = (u8s m)[j]? := by rw [← htm, List.getElem?_take, if_pos hj]; simp
            rcases Nat.lt_or_ge j (l ++ l').length with hjl | hjl
            · have e1 : cur1[j]? = (u8s (l ++ l'))[j]? := by rw [← hnew, List.getElem?_take, if_pos hjl]; simp
              rw [e1, u8s_get hjl, u8s_get hj]
              congr 2
              rw [hag j m[j] (l ++ l')[j] (List.getElem?_eq_getElem hj) (List.getElem?_eq_getElem hjl)]
            · rw [a5 j (by simp [u8s] at hjl ⊢; omega), hmj]
          · rw [if_neg hj, List.getElem?_eq_none (by simpa [u8s] using hj)]
    · have hr := run_append_grow (P := Try.prog) w 23 ty 5 i0 (.int .u8 0) hut hi hz0 ⟨g, 0, none⟩ l.length c (u8s l) (by simp [hz1, u8s]) (fun j u hu => h0.cell rfl hu) ad l'.length c' (u8s l') (by simp [hz1, u8s]) hnews (by omega) (by omega) (by rw [hz2]; exact growslice_fits (by omega) (by omega))
      have hge := grownCap_ge w (l.length + l'.length) c 5
      have hcm2 : grownCap w (l.length + l'.length) c 5 ≤ maxLen := grownCap_le_maxLen w (l.length + l'.length) c 5 (by simp only [maxLen]; omega)
      generalize grownCap w (l.length + l'.length) c 5 = c1 at hr hge hcm2
      have hgr : ∀ row, w.grownBy (w.drew.alloc (.cells ((u8s l).toArray ++ (u8s l').toArray ++ Builtin.zeroCells (Value.int .u8 0).cells (c1 - (l.length + l'.length))) 5)) row := fun row => ⟨rfl, rfl, rfl, by simp, fun k hk _ => Below.heap_alloc w.drew _ k hk⟩
      refine ⟨some ⟨w.heap.size, 0, none⟩, c1, _, hr, ⟨.inr ⟨w.heap.size, _, (0, 0), rfl, hbase, heap_alloc_new w.drew _, .inl rfl, by simpa using hge, ?_, ?_⟩, h0.kept (hgr none) (by simp), hgr _, .inr ⟨hgr none, fun ad' e => by injection e with e; subst e; exact Nat.le_refl _⟩, fun m hm _ => hm.kept (hgr none) (by simp)⟩⟩
      · have hz1' : (Value.int IntKind.u8 0).cells.size = 1 := rfl
        simp only [Array.size_append, List.size_toArray, size_zeroCells, hz1', u8s_length]
        omega
      · simp only [Array.toList_append, u8s_append, List.append_assoc]
        rw [← List.append_assoc, ← u8s_append]
        have : (l ++ l').length = (u8s (l ++ l')).length := by simp [u8s]
        rw [this]
        exact List.take_left

section
variable {ops : Array Oper} {rest : List Oper} {o : Oper} {a : Act} {Q : Exit → Act → World → Prop} {W : World}
/-- append onto a row of bytes of one's own. -/
theorem ev_append_ob (hgd : o.guard = none) {s x : Operand} (ho : o.op = .call { callee := .builtin .append, args := #[s, x], argTypes := #[23, 23] })
    {base n : Nat} {A : Option Addr} {c : Nat} {l : List UInt8} (hs : a.eval s = .slice A n c) (hn : l.length = n) (h : OB W base A c l) (hbase : base ≤ W.heap.size) {ad : Addr} {l' : List UInt8} {m c' : Nat} (hx : a.eval x = .slice (some ad) m c') (hm : l'.length = m)
    (hnews : ∀ j u, (u8s l')[j]? = some u → W.cell? (ad.add j) = some u) (hb : n + m ≤ 140737488355328)
    (hk : ∀ A1 c1 w1, Grew W base A c l l' A1 c1 w1 → wpList Try.prog ops Q rest (a.put o.dst (.slice A1 (n + m) c1)) w1) : wpList Try.prog ops Q (o :: rest) a W := by
  subst hm
  subst hn
  obtain ⟨A1, c1, w1, hrun, hG⟩ := run_append_ob W h hbase ad l' c' hnews o.type hb
  refine ev_run hgd (w1 := w1) (v := .slice A1 (l.length + l'.length) c1) ?_ (hk A1 c1 w1 hG)
  simp only [execOp, ho, resolve, invoke, builtin, Sem.run_bind, Sem.run_pure, Result.andThen_ok, List.map_toArray, List.map_cons, List.map_nil, hs, hx, hrun]
end
/-! ### A store into a row of one's own, its elements being of any size -/
theorem own_setN {w : World} {base g n c k size : Nat} {e : TypeId} {xs : List Value} (h : w.ownsRow base e size (.slice (some ⟨g, 0, none⟩) n c) n xs) (hk : k < n * size) (v : Value) :
    (w.setCell ⟨g, k, none⟩ v).ownsRow base e size (.slice (some ⟨g, 0, none⟩) n c) n (xs.set k v) ∧ w.grownBy (w.setCell ⟨g, k, none⟩ v) (some g) := by
  refine ⟨⟨by rw [List.length_set]; exact h.1, ?_⟩, rfl, rfl, rfl, by simp [World.setCell], fun i _ hne => Below.heap_setCell _ _ _ _ (fun e => hne (by rw [e]))⟩
  rcases h.2 with ⟨h2, _⟩ | ⟨g', cap, cur, hv, hb, hh, h1, h2, h3, h4⟩
  · cases h2
  · injection hv with ha _ hc
    injection ha with ha
    injection ha with hg
    subst hg
    subst hc
    refine .inr ⟨g, c, cur.setIfInBounds k v, rfl, hb, ?_, h1, h2, by simpa using h3, ?_⟩
    · simp [World.setCell, Array.getElem?_modify, hh]
    · rw [← h4, Array.toList_setIfInBounds, List.take_set]
theorem own_cellN {w : World} {base g n c size : Nat} {e : TypeId} {xs : List Value} (h : w.ownsRow base e size (.slice (some ⟨g, 0, none⟩) n c) n xs) (k : Nat) {u : Value} (hu : xs[k]? = some u) : w.cell? ⟨g, k, none⟩ = some u := by
  have := h.cells (g := g) rfl k _ hu
  have e : (⟨g, 0, none⟩ : Addr).add k = ⟨g, k, none⟩ := by unfold Addr.add; split <;> simp_all
  rwa [e] at this
section
variable {P : Program} {ops : Array Oper} {rest : List Oper} {o : Oper} {a : Act} {Q : Exit → Act → World → Prop} {W : World}
theorem ev_store_ownN (hgd : o.guard = none) (hN : o.dst = none) {t : TypeId} {p x : Operand} (ho : o.op = .store t p x) {base g n c k size : Nat} {e : TypeId} {xs : List Value} (hown : W.ownsRow base e size (.slice (some ⟨g, 0, none⟩) n c) n xs) (hk : k < n * size) {v : Value}
    (hp : a.eval p = .pointer (some ⟨g, k, none⟩)) (hx : a.eval x = v) (h1 : v.oneCell' = true) (hi : (P.info? t).map (·.size) = some 1)
    (h : ∀ w1, w1.ownsRow base e size (.slice (some ⟨g, 0, none⟩) n c) n (xs.set k v) → W.grownBy w1 (Value.slice (some ⟨g, 0, none⟩) n c).ownBlock → wpList P ops Q rest a w1) : wpList P ops Q (o :: rest) a W := by
  obtain ⟨j, hj, hs⟩ := Option.map_eq_some_iff.1 hi
  have hv : v.cells = #[v] := by cases v <;> first | rfl | cases h1
  obtain ⟨h2, h3⟩ := own_setN hown hk v
  refine ev_skip hgd hN (w1 := W.setCell ⟨g, k, none⟩ v) ?_ (h _ h2 h3)
  have hc : ∃ u, W.cell? ⟨g, k, none⟩ = some u := ⟨_, own_cellN hown k (List.getElem?_eq_getElem (by rw [hown.1]; exact hk))⟩
  obtain ⟨u, hc⟩ := hc
  have hst : (storeVar t ⟨g, k, none⟩ v).run P W = .ok () (W.setCell ⟨g, k, none⟩ v) := by
    have h0 : (⟨g, k, none⟩ : Addr).add 0 = ⟨g, k, none⟩ := rfl
    have hst1 : (store ⟨g, k, none⟩ v).run P W = .ok () (W.setCell ⟨g, k, none⟩ v) := by
      rw [run_store P W _ v .plain h1]
      simp [stored, hc, own_frozen hown]
    simp [storeVar, sizeOf, typeInfo, hj, hs, hv, storeCells, h0, hst1]
  simp [execOp, ho, hp, hx, Instr.storeAt, Instr.sureAddr, hst]
end
theorem RA.cs_len (x : RA) : x.cs.length = 12 := rfl
theorem recCells_set : ∀ {os : List RA} {i : Nat} {x x' : RA} (f : Nat) (v : Value), os[i]? = some x → x'.cs = x.cs.set f v → f < 12 → recCells (os.set i x') = (recCells os).set (i * 12 + f) v
  | [], i, x, x', f, v, h, _, _ => by simp at h
  | y :: os, 0, x, x', f, v, h, hc, hf => by
    simp at h
    subst h
    have e1 : recCells (y :: os) = y.cs ++ recCells os := by simp [recCells]
    have e2 : recCells ((y :: os).set 0 x') = x'.cs ++ recCells os := by simp [recCells]
    rw [e1, e2, hc, Nat.zero_mul, Nat.zero_add, List.set_append_left _ _ (by rw [RA.cs_len]; exact hf)]
  | y :: os, i + 1, x, x', f, v, h, hc, hf => by
    have ih := recCells_set (os := os) (i := i) f v (by simpa using h) hc hf
    have e1 : recCells (y :: os) = y.cs ++ recCells os := by simp [recCells]
    have e2 : recCells ((y :: os).set (i + 1) x') = y.cs ++ recCells (os.set i x') := by simp [recCells]
    rw [e1, e2, ih, List.set_append_right _ _ (by rw [RA.cs_len]; omega), RA.cs_len]
    congr 2
    omega
end Go.Proofs.Ytikodgaomhmbmaa
