/-
  What a row's listed variables give: the cells of their blocks.
-/
import Derived.Test.YtikodgaomhmbmaaDoorK
import Derived.Lib.LaidU8
import Derived.OpenShut
set_option linter.unusedVariables false
set_option linter.unusedSimpArgs false
namespace Go.Proofs.YtikodgaomhmbmaaDoor
open Go.RowKit Go.Lib

mutual
/-- A plain datum as cells. -/
def flat {H : Type} : DataW H → List Value
  | .lit (.int k n) => [.int k n]
  | .lit (.string b) => [.string ⟨b.toArray⟩]
  | .lit (.bool b) => [.bool b]
  | .agg l => flatAll l
  | _ => []
def flatAll {H : Type} : List (DataW H) → List Value
  | [] => []
  | d :: r => flat d ++ flatAll r
end
/-- A type whose values are plain cells, its fields one behind the other. -/
def plainT (P : Program) : Nat → TypeId → Bool
  | 0, _ => false
  | n + 1, t => match P.underlying t with
    | some .bool => true
    | some (.int _) => true
    | some .string => true
    | some (.array m e) => plainT P n e && decide (P.cellsOf t = m * P.cellsOf e)
    | some (.struct fs) => fs.toList.all (fun f => plainT P n f.type) && run P 0 fs.toList (P.cellsOf t)
    | _ => false
where
  run (P : Program) (at_ : Nat) : List Field → Nat → Bool
  | [], m => decide (at_ = m)
  | f :: r, m => decide (f.offset = at_) && run P (at_ + P.cellsOf f.type) r m

section
variable {H : Type} {enc : TypeId × Value → H} {P : Program} {w : World} {base : Nat} {sp : Nat → Bool} {held : Bool}

theorem flatAll_map {α : Type} (f : α → DataW H) : ∀ l : List α, flatAll (l.map f) = l.flatMap fun x => flat (f x)
  | [] => rfl
  | x :: l => by simp [flatAll, flatAll_map f l]

theorem mapM_some {α β : Type} {f : α → Option β} : ∀ {l : List α} {r : List β}, l.mapM f = some r → l.length = r.length ∧ ∀ (i : Nat) (a : α) (b : β), l[i]? = some a → r[i]? = some b → f a = some b
  | [], r, h => by
    simp at h
    subst h
    exact ⟨rfl, fun i a b h => by simp at h⟩
  | x :: l, r, h => by
    simp only [List.mapM_cons, Option.bind_eq_bind, Option.bind_eq_some_iff, Option.pure_def, Option.some.injEq] at h
    obtain ⟨b, hb, r', hr', rfl⟩ := h
    obtain ⟨h1, h2⟩ := mapM_some hr'
    refine ⟨by simp [h1], fun i a c ha hc => ?_⟩
    cases i with
    | zero => simp at ha hc; subst ha; subst hc; exact hb
    | succ i => exact h2 i a c (by simpa using ha) (by simpa using hc)

/-- Pieces of one length, one behind the other. -/
theorem pieces (s : Nat) : ∀ (m : Nat) (cs : List Value) (g : Nat → List Value), cs.length = m * s → (∀ i, i < m → (cs.drop (i * s)).take s = g i) → cs = (List.range m).flatMap g
  | 0, cs, g, hl, _ => by simpa using hl
  | m + 1, cs, g, hl, h => by
    have hs : (m + 1) * s = m * s + s := Nat.succ_mul m s
    have h1 := pieces s m (cs.take (m * s)) g (by rw [List.length_take]; omega) (fun i hi => by
      have hle : (i + 1) * s ≤ m * s := Nat.mul_le_mul_right _ hi
      have hs2 : (i + 1) * s = i * s + s := Nat.succ_mul i s
      rw [List.drop_take, List.take_take, Nat.min_eq_left (by omega)]
      exact h i (by omega))
    rw [List.range_succ, List.flatMap_append, ← h1]
    have h2 := h m (by omega)
    rw [List.take_of_length_le (by rw [List.length_drop]; omega)] at h2
    simp [← h2]

theorem runs : ∀ (fs : List Field) (at_ m : Nat) (cs : List Value) (g : Field → List Value), plainT.run P at_ fs m = true → cs.length = m → (∀ f ∈ fs, (cs.drop f.offset).take (P.cellsOf f.type) = g f) → at_ ≤ m → cs.drop at_ = fs.flatMap g
  | [], at_, m, cs, g, h, hl, _, _ => by
    simp only [plainT.run, decide_eq_true_eq] at h
    simp [List.drop_eq_nil_of_le (show cs.length ≤ at_ by omega)]
  | f :: r, at_, m, cs, g, h, hl, hg, hm => by
    simp only [plainT.run, Bool.and_eq_true, decide_eq_true_eq] at h
    have hf := hg f (by simp)
    rw [h.1] at hf
    by_cases hle : at_ + P.cellsOf f.type ≤ m
    · have ih := runs r (at_ + P.cellsOf f.type) m cs g h.2 hl (fun x hx => hg x (by simp [hx])) hle
      rw [List.flatMap_cons, ← ih, ← hf, ← List.drop_drop, List.take_append_drop]
    · exfalso
      have : ∀ (l : List Field) (k : Nat), plainT.run P k l m = true → k ≤ m := by
        intro l
        induction l with
        | nil => intro k hk; simp only [plainT.run, decide_eq_true_eq] at hk; omega
        | cons x l ih => intro k hk; simp only [plainT.run, Bool.and_eq_true, decide_eq_true_eq] at hk; have := ih _ hk.2; omega
      exact hle (this r _ h.2)

theorem flat_of : ∀ (n : Nat) (t : TypeId) (fuel : Nat) (cs : List Value) (d : DataW H) (p : List MemPlace), plainT P n t = true → DataW.trod enc P w base sp held fuel t cs = some (d, p) → cs = flat d
  | 0, _, _, _, _, _, h, _ => by simp [plainT] at h
  | n + 1, t, 0, _, _, _, _, h => by simp [DataW.trod] at h
  | n + 1, t, fuel + 1, cs, d, p, hp, h => by
    unfold plainT at hp
    split at hp
    · rename_i hu
      obtain ⟨b, rfl, hx⟩ := DataW.trod_bool hu h
      injection hx with h1 h2
      subst h1
      rfl
    · rename_i hu
      obtain ⟨b, rfl, hx, _⟩ := DataW.trod_int hu h
      injection hx with h1 h2
      subst h1
      rfl
    · rename_i hu
      obtain ⟨b, rfl, hx, _⟩ := DataW.trod_string hu h
      injection hx with h1 h2
      subst h1
      rfl
    · rename_i m e hu
      simp only [Bool.and_eq_true, decide_eq_true_eq] at hp
      simp only [DataW.trod, hu] at h
      split at h
      · rename_i hl
        obtain ⟨xs, hm, hx⟩ := Option.map_eq_some_iff.1 h
        injection hx with h1 h2
        subst h1
        obtain ⟨hlen, hat⟩ := mapM_some hm
        have hxl : xs.length = m := by simpa using hlen.symm
        have := pieces (P.cellsOf e) m cs (fun i => flat ((xs.map (·.1)).getD i .nil)) (by omega) (fun i hi => by
          have hx := hat i i xs[i] (by simp [hi]) (List.getElem?_eq_getElem (by omega))
          have := flat_of n e fuel _ _ _ hp.1 hx
          rw [this]
          simp [List.getD, show i < xs.length by omega])
        rw [this]
        simp only [flat]
        rw [flatAll_map]
        have e1 : xs = (List.range m).map fun i => xs.getD i (.nil, []) := by
          apply List.ext_getElem?
          intro i
          by_cases hi : i < m
          · simp [hi, List.getD, show i < xs.length by omega]
          · rw [List.getElem?_eq_none (by omega), List.getElem?_eq_none (by simp; omega)]
        conv => rhs; rw [e1]
        rw [List.flatMap_map]
        congr 1
        funext i
        by_cases hi : i < xs.length
        · simp [List.getD, hi]
        · simp [List.getD, List.getElem?_eq_none (show xs.length ≤ i by omega), flat]
      · cases h
    · rename_i fs hu
      simp only [Bool.and_eq_true] at hp
      obtain ⟨xs, k, hk, hx, hcl, hlen, hg⟩ := DataW.trod_struct hu h
      injection hx with h1 h2
      subst h1
      have hrun := runs (P := P) fs.toList 0 (P.cellsOf t) cs (fun f => (cs.drop f.offset).take (P.cellsOf f.type)) hp.2 hcl (fun _ _ => rfl) (by omega)
      simp only [List.drop_zero] at hrun
      rw [hrun]
      simp only [flat]
      rw [flatAll_map]
      have e1 : ∀ (i : Nat) (f : Field), fs.toList[i]? = some f → ∃ x, xs[i]? = some x ∧ (cs.drop f.offset).take (P.cellsOf f.type) = flat x.1 := by
        intro i f hf
        have hf' : fs[i]? = some f := by simpa using hf
        have hi : i < xs.length := by
          have := (Array.getElem?_eq_some_iff.1 hf').1
          omega
        refine ⟨xs[i], List.getElem?_eq_getElem hi, ?_⟩
        have := hg i f hf'
        rw [List.getElem?_eq_getElem hi] at this
        have hpl : plainT P n f.type = true := List.all_eq_true.1 hp.1 f (List.mem_of_getElem? hf)
        exact flat_of n f.type k _ xs[i].1 xs[i].2 hpl this
      have : ∀ (l : List Field) (ys : List (DataW H × List MemPlace)), l.length = ys.length → (∀ (i : Nat) (f : Field), l[i]? = some f → ∃ x, ys[i]? = some x ∧ (cs.drop f.offset).take (P.cellsOf f.type) = flat x.1) →
          l.flatMap (fun f => (cs.drop f.offset).take (P.cellsOf f.type)) = ys.flatMap fun (x : DataW H × List MemPlace) => flat x.1 := by
        intro l
        induction l with
        | nil => intro ys hl _; have h0 : ys = [] := List.eq_nil_of_length_eq_zero hl.symm; rw [h0]; rfl
        | cons f l ih =>
          intro ys hl h
          cases ys with
          | nil => exact absurd hl (by simp only [List.length_cons, List.length_nil]; omega)
          | cons y ys =>
            obtain ⟨x, hx, hf⟩ := h 0 f rfl
            simp at hx
            subst hx
            rw [List.flatMap_cons, List.flatMap_cons, hf, ih ys (by simpa using hl) (fun i g hg => h (i + 1) g hg)]
      exact this fs.toList xs (by simpa using hlen.symm) e1
    · cases hp
end

/-- Block g holds these values at its begin. -/
def Tab (w : World) (g : Nat) (vs : List Value) : Prop := g < w.heap.size ∧ ∀ i v, vs[i]? = some v → w.cell? ⟨g, i, none⟩ = some v
theorem Tab.next {w w' : World} {g : Nat} {vs : List Value} (h : Tab w g vs) (hb : Below w.heap.size w w') : Tab w' g vs :=
  ⟨Nat.lt_of_lt_of_le h.1 hb.size, fun i v hv => (hb.cell (p := ⟨g, i, none⟩) h.1).trans (h.2 i v hv)⟩
theorem tab_of_reads {P : Program} {w : World} {n : String} {d : DataW Unit} {g : Nat} {t : TypeId} (m : Nat) (h : VarReads P w n d) (hg : P.globalNamed n = some g) (ht : (P.globals[g]?).map (·.type) = some t) (hp : plainT P m t = true) (vs : List Value) (hv : flat d = vs) (h0 : 0 < vs.length) : Tab w g vs := by
  obtain ⟨g', t', cs, fuel, p, hg', ht', hvar, hd⟩ := h
  obtain rfl := Option.some.inj (hg.symm.trans hg')
  obtain rfl := Option.some.inj (ht.symm.trans ht')
  have hcs := flat_of m _ fuel _ _ _ hp hd
  rw [hv] at hcs
  have hcell : ∀ i v, vs[i]? = some v → w.cell? ⟨g, i, none⟩ = some v := by
    intro i v hi
    rw [World.var?_cell hg hvar i, ← Array.getElem?_toList, hcs, hi]
  exact ⟨World.block_lt_of_cell? w _ (hcell 0 vs[0] (List.getElem?_eq_getElem h0)), hcell⟩
end Go.Proofs.YtikodgaomhmbmaaDoor
