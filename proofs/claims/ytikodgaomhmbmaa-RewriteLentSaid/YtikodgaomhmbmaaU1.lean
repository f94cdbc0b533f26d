/-
  Rows of one's own whatever their elements are: lists of them that lie apart, an append that says what else of the row stays, and families of slices that share rows only where they agree.
-/
import Derived.Test.YtikodgaomhmbmaaH1
set_option linter.unusedVariables false
set_option linter.unusedSimpArgs false
namespace Go.Proofs.Ytikodgaomhmbmaa
open Go.RowKit

/-- A slice of a row: its cells, its length, where it begins, its room. -/
abbrev GA := List Value × Nat × Option Addr × Nat
def GA.val (x : GA) : Value := .slice x.2.2.1 x.2.1 x.2.2.2
/-- Where two lists both have a cell they have the same. -/
def AgreesG (m k : List Value) : Prop := ∀ (j : Nat) (x y : Value), m[j]? = some x → k[j]? = some y → x = y
theorem agreesG_of_prefix {m k f : List Value} (h1 : m <+: f) (h2 : k <+: f) : AgreesG m k := by
  intro j x y hx hy
  obtain ⟨t1, rfl⟩ := h1
  obtain ⟨t2, e⟩ := h2
  have h1 : (m ++ t1)[j]? = some x := by rw [List.getElem?_append_left (List.getElem?_eq_some_iff.1 hx).1]; exact hx
  have h2 : (k ++ t2)[j]? = some y := by rw [List.getElem?_append_left (List.getElem?_eq_some_iff.1 hy).1]; exact hy
  rw [e, h1] at h2
  injection h2
/-- What an append onto a row of one's own leaves. -/
structure GrewG (e : TypeId) (size : Nat) (w : World) (base : Nat) (A : Option Addr) (c n : Nat) (xs news : List Value) (m : Nat) (A1 : Option Addr) (c1 : Nat) (w1 : World) : Prop where
  made : w1.ownsRow base e size (.slice A1 (n + m) c1) (n + m) (xs ++ news)
  grown : w.grownBy w1 (A.map (·.block))
  lies : (A1 = A ∧ c1 = c) ∨ (w.grownBy w1 none ∧ ∀ ad, A1 = some ad → w.heap.size ≤ ad.block)
  also : ∀ n2 ys, w.ownsRow base e size (.slice A n2 c) n2 ys → AgreesG ys (xs ++ news) → w1.ownsRow base e size (.slice A n2 c) n2 ys
set_option maxRecDepth 100000 in
theorem run_append_share {P : Program} (w : World) (base : Nat) (t ty e : TypeId) (i : TypeInfo) (z : Value) (size bytes : Nat) (ht : P.underlying t = some (.slice e)) (hi : P.info? e = some i) (hz : i.zero = some z)
    (hsize : i.size = size) (hby : i.bytes = bytes) (hzs : z.cells.size = size) (hsz : 0 < size)
    (A : Option Addr) (c0 n : Nat) (xs : List Value) (hown : w.ownsRow base e size (.slice A n c0) n xs)
    (a : Addr) (m c : Nat) (news : List Value) (hl : news.length = m * size) (hnews : ∀ j u, news[j]? = some u → w.cell? (a.add j) = some u) (h1 : ∀ u ∈ news, u.oneCell' = true)
    (hb0 : 0 < bytes) (hbytes : (n + m) * bytes ≤ 140737488355328) (hbase : base ≤ w.heap.size) :
    ∃ A1 c1 w', (Builtin.append_ #[t, t] ty #[.slice A n c0, .slice (some a) m c]).run P w = .ok (.slice A1 (n + m) c1) w' ∧ GrewG e size w base A c0 n xs news m A1 c1 w' := by
  have hlen0 : n + m ≤ 140737488355328 := Nat.le_trans (Nat.le_mul_of_pos_right _ hb0) hbytes
  have h63 : n + m ≤ maxLen := by simp only [maxLen]; omega
  have h0 := hown
  rcases hown.2 with ⟨hv, hn0⟩ | ⟨g, cap, cur, hv, hbg, hg, hnc, hcm, hcs, htake⟩
  · injection hv with e1 _ e3
    subst e1 e3 hn0
    have hx : xs = [] := List.eq_nil_of_length_eq_zero (by simpa using hown.1)
    subst hx
    obtain ⟨v', w1, hrun, ho, hgr, _, _⟩ := run_append_own_at (P := P) w w.heap.size t ty e i z size bytes ht hi hz hsize hby hzs hsz (.slice none 0 0) 0 [] (own_nil w _ _ _) a m c news hl hnews h1 h63 hbytes (Nat.le_refl _)
    obtain ⟨A1, c1, rfl⟩ := own_slice ho
    have hg' : w.grownBy w1 none := hgr
    refine ⟨A1, c1, w1, hrun, own_mono ho hbase, hg', .inr ⟨hg', fun ad e2 => ?_⟩, fun n2 ys hy _ => hy.kept hg' (.inl rfl)⟩
    have := own_base ho ad.block (by rw [e2]; rfl)
    exact this
  · injection hv with e1 _ e3
    subst e1 e3
    have hlen : (xs ++ news).length = (n + m) * size := by rw [List.length_append, hown.1, hl, Nat.add_mul]
    by_cases hroom : n + m ≤ c0
    · have hfit : n * i.size + news.length ≤ cur.size := by rw [hl, hcs, hsize, ← Nat.add_mul]; exact Nat.mul_le_mul_right _ hroom
      have hr := run_append_room (P := P) w t ty e i ht hi g n c0 cur hg a m c news (by rw [hsize]; exact hl) hnews h1 hroom hfit
      rw [hsize] at hr hfit
      have hgr : w.grownBy (w.setRow g (cur.toList.take (n * size) ++ news ++ cur.toList.drop (n * size + news.length)).toArray) (some g) := ⟨rfl, rfl, rfl, by simp, fun k _ hk => setRow_other w g k _ (fun e => hk (by rw [e]))⟩
      have hsz2 : (cur.toList.take (n * size) ++ news ++ cur.toList.drop (n * size + news.length)).toArray.size = c0 * size := by
        simp only [List.size_toArray, List.length_append, List.length_take, List.length_drop, Array.length_toList]
        omega
      refine ⟨some ⟨g, 0, none⟩, c0, _, hr, ⟨hlen, .inr ⟨g, c0, _, rfl, hbg, setRow_heap w g cur _ e _ hg, hroom, hcm, hsz2, ?_⟩⟩, hgr, .inl ⟨rfl, rfl⟩, fun n2 ys hy hag => ⟨hy.1, .inr ⟨g, c0, _, rfl, hbg, setRow_heap w g cur _ e _ hg, ?_, hcm, hsz2, ?_⟩⟩⟩
      · rw [htake, ← hlen]
        exact List.take_left
      · rcases hy.2 with ⟨h2, h3⟩ | ⟨g', cap', cur', hv', _, _, hn2, _⟩
        · omega
        · injection hv' with _ _ e3
          omega
      · rcases hy.2 with ⟨h2, h3⟩ | ⟨g', cap', cur', hv', _, hg', hn2, _, _, ht2⟩
        · cases h2
        · injection hv' with e1 _ e3
          injection e1 with e1
          injection e1 with e1
          subst e1
          rw [hg] at hg'
          injection hg' with hg'
          injection hg' with e4 _ _
          subst e4
          rw [htake]
          apply List.ext_getElem?
          intro j
          rw [List.getElem?_take]
          by_cases hj : j < n2 * size
          · rw [if_pos hj]
            have hyj : cur.toList[j]? = ys[j]? := by rw [← ht2, List.getElem?_take, if_pos hj]
            have hjy : j < ys.length := by rw [hy.1]; exact hj
            rcases Nat.lt_or_ge j (xs ++ news).length with hjl | hjl
            · rw [List.getElem?_append_left hjl, List.getElem?_eq_getElem hjl, List.getElem?_eq_getElem hjy]
              rw [hag j ys[j] (xs ++ news)[j] (List.getElem?_eq_getElem hjy) (List.getElem?_eq_getElem hjl)]
            · rw [List.getElem?_append_right hjl, List.getElem?_drop, ← hyj]
              congr 1
              rw [List.length_append] at hjl ⊢
              have := hown.1
              omega
          · rw [if_neg hj, List.getElem?_eq_none (by rw [hy.1]; omega)]
    · have holds : ∀ j u, xs[j]? = some u → w.cell? ((⟨g, 0, none⟩ : Addr).add j) = some u := h0.cells (g := g) rfl
      have hr := run_append_grow (P := P) w t ty e i z ht hi hz ⟨g, 0, none⟩ n c0 xs (by rw [hsize]; exact hown.1) holds a m c news (by rw [hsize]; exact hl) hnews (by omega) (by omega) (by rw [hby]; exact growslice_fits (by omega) hbytes)
      have hge := grownCap_ge w (n + m) c0 e
      have hcm2 : grownCap w (n + m) c0 e ≤ maxLen := grownCap_le_maxLen w (n + m) c0 e h63
      generalize grownCap w (n + m) c0 e = c1 at hr hge hcm2
      have hgr : ∀ row, w.grownBy (w.drew.alloc (.cells (xs.toArray ++ news.toArray ++ Builtin.zeroCells z.cells (c1 - (n + m))) e)) row := fun row => ⟨rfl, rfl, rfl, by simp, fun k hk _ => Below.heap_alloc w.drew _ k hk⟩
      refine ⟨some ⟨w.heap.size, 0, none⟩, c1, _, hr, ⟨hlen, .inr ⟨w.heap.size, _, _, rfl, hbase, heap_alloc_new w.drew _, hge, hcm2, ?_, ?_⟩⟩, hgr _, .inr ⟨hgr none, fun ad' e2 => by injection e2 with e2; subst e2; exact Nat.le_refl _⟩, fun n2 ys hy _ => hy.kept (hgr none) (by cases Value.ownBlock _ <;> simp)⟩
      · simp only [Array.size_append, List.size_toArray, size_zeroCells, hzs, hown.1, hl, ← Nat.add_mul]
        congr 1
        omega
      · simp only [Array.toList_append, List.append_assoc]
        rw [← List.append_assoc, ← hlen]
        exact List.take_left
section
variable {P : Program} {ops : Array Oper} {rest : List Oper} {o : Oper} {a : Act} {Q : Exit → Act → World → Prop} {W : World}
theorem ev_append_share (hgd : o.guard = none) {s x : Operand} {t : TypeId} (ho : o.op = .call { callee := .builtin .append, args := #[s, x], argTypes := #[t, t] })
    {base : Nat} {e : TypeId} {z : Value} {size bytes : Nat} (ht : P.underlying t = some (.slice e)) (hinfo : (P.info? e).map (fun i => (i.zero, i.size, i.bytes)) = some (some z, size, bytes))
    (hzs : z.cells.size = size) (hsz : 0 < size) {A0 : Option Addr} {c0 n : Nat} {xs : List Value} (hs : a.eval s = .slice A0 n c0) (hown : W.ownsRow base e size (.slice A0 n c0) n xs)
    {ad : Addr} {m c : Nat} {news : List Value} (hx : a.eval x = .slice (some ad) m c) (hl : news.length = m * size) (hnews : ∀ j u, news[j]? = some u → W.cell? (ad.add j) = some u) (h1 : ∀ u ∈ news, u.oneCell' = true)
    (hbytes : (n + m) * bytes ≤ 140737488355328) (hb0 : 0 < bytes) (hbase : base ≤ W.heap.size)
    (h : ∀ A1 c1 w1, GrewG e size W base A0 c0 n xs news m A1 c1 w1 → wpList P ops Q rest (a.put o.dst (.slice A1 (n + m) c1)) w1) : wpList P ops Q (o :: rest) a W := by
  obtain ⟨i0, hi, hz0, hz1, hz2⟩ := info_parts hinfo
  obtain ⟨A1, c1, w1, hrun, hG⟩ := run_append_share (P := P) W base t o.type e i0 z size bytes ht hi hz0 hz1 hz2 hzs hsz A0 c0 n xs hown ad m c news hl hnews h1 hb0 hbytes hbase
  refine ev_run hgd (w1 := w1) (v := .slice A1 (n + m) c1) ?_ (h A1 c1 w1 hG)
  simp only [execOp, ho, resolve, invoke, builtin, Sem.run_bind, Sem.run_pure, Result.andThen_ok, List.map_toArray, List.map_cons, List.map_nil, hs, hx, hrun]
end

/-! ### Lists of such rows -/
structure OGs (e : TypeId) (size : Nat) (w : World) (base : Nat) (os : List GA) : Prop where
  all : ∀ x ∈ os, w.ownsRow base e size x.val x.2.1 x.1
  apart : os.Pairwise fun x y => Apart x.2.2.1 y.2.2.1
theorem own_lt_at {w : World} {base n c size : Nat} {e : TypeId} {A : Option Addr} {xs : List Value} (h : w.ownsRow base e size (.slice A n c) n xs) {ad : Addr} (hA : A = some ad) : base ≤ ad.block ∧ ad.block < w.heap.size := by
  subst hA
  exact h.lt _ rfl
section
variable {e : TypeId} {size : Nat} {w w' : World} {base : Nat} {os : List GA}
theorem OGs.nil : OGs e size w base [] := ⟨fun x hx => (by cases hx), List.Pairwise.nil⟩
theorem OGs.lt (h : OGs e size w base os) : ∀ x ∈ os, ∀ ad, x.2.2.1 = some ad → base ≤ ad.block ∧ ad.block < w.heap.size := fun x hx _ e => own_lt_at (h.all x hx) e
theorem OGs.kept {row : Option Nat} (h : OGs e size w base os) (hgr : w.grownBy w' row) (hne : ∀ x ∈ os, ∀ ad, x.2.2.1 = some ad → some ad.block ≠ row) : OGs e size w' base os := by
  refine ⟨fun x hx => (h.all x hx).kept hgr ?_, h.apart⟩
  unfold GA.val
  cases hA : x.2.2.1 with
  | none => exact .inl rfl
  | some ad => exact .inr fun e => hne x hx ad hA e
theorem OGs.next (h : OGs e size w base os) (hb : Below w.heap.size w w') : OGs e size w' base os := h.kept (grown_of_below hb) (by simp)
theorem OGs.mono {base' : Nat} (h : OGs e size w base os) (hb : base' ≤ base) : OGs e size w base' os := ⟨fun x hx => own_mono (h.all x hx) hb, h.apart⟩
theorem OGs.ne_own {base' size' n : Nat} {e' : TypeId} {v : Value} {xs : List Value} (h : OGs e size w base os) (ho : w.ownsRow base' e' size' v n xs) (hne : e ≠ e') : ∀ x ∈ os, ∀ ad, x.2.2.1 = some ad → some ad.block ≠ v.ownBlock := fun x hx ad hA he => by
  have h1 := h.all x hx
  unfold GA.val at h1
  rw [hA] at h1
  rcases own_ty_ne h1 ho hne with h2 | h2
  · cases h2
  · exact h2 he
theorem OGs.ne_blk {g : Nat} {t : TypeId} {cs : Array Value} (h : OGs e size w base os) (hg : Blk w g t cs) (hne : e ≠ t) : ∀ x ∈ os, ∀ ad, x.2.2.1 = some ad → some ad.block ≠ some g := fun x hx ad hA he => by
  have h1 := h.all x hx
  unfold GA.val at h1
  rw [hA] at h1
  exact own_blk_ne h1 hg hne he
theorem OGs.snoc {y : GA} (h : OGs e size w base os) (hy : w.ownsRow base e size y.val y.2.1 y.1) (hd : ∀ x ∈ os, Apart x.2.2.1 y.2.2.1) : OGs e size w base (os ++ [y]) := by
  constructor
  · intro x hx
    rcases List.mem_append.1 hx with hx | hx
    · exact h.all x hx
    · obtain rfl : x = y := by simpa using hx
      exact hy
  · refine List.pairwise_append.2 ⟨h.apart, List.pairwise_singleton _ _, ?_⟩
    intro a ha b hb
    obtain rfl : b = y := by simpa using hb
    exact hd a ha
theorem OGs.others (h : OGs e size w base os) {k : Nat} {y : GA} (hk : os[k]? = some y) {j : Nat} {x : GA} (hj : os[j]? = some x) (hne : j ≠ k) : Apart x.2.2.1 y.2.2.1 := by
  have hp := List.pairwise_iff_getElem.1 h.apart
  obtain ⟨hk1, rfl⟩ := List.getElem?_eq_some_iff.1 hk
  obtain ⟨hj1, rfl⟩ := List.getElem?_eq_some_iff.1 hj
  rcases Nat.lt_or_gt_of_ne hne with hl | hl
  · exact hp j k hj1 hk1 hl
  · exact (hp k j hk1 hj1 hl).symm
/-- A new row lies apart from those that were there. -/
theorem OGs.apart_new {base' n c : Nat} {A : Option Addr} {xs : List Value} (h : OGs e size w base os) (h' : w'.ownsRow base' e size (.slice A n c) n xs) (hb : w.heap.size ≤ base') : ∀ x ∈ os, Apart x.2.2.1 A := fun x hx a b ha hb' e2 => by
  have h1 := (h.lt x hx a ha).2
  have h2 := (own_lt_at h' hb').1
  omega
/-- One of the rows holds other cells, the others stay. -/
theorem OGs.set_ (h : OGs e size w base os) {k : Nat} {xs ys : List Value} {n g c : Nat} (hk : os[k]? = some (xs, n, some ⟨g, 0, none⟩, c)) (hy : w'.ownsRow base e size (.slice (some ⟨g, 0, none⟩) n c) n ys) (hgr : w.grownBy w' (some g)) : OGs e size w' base (os.set k (ys, n, some ⟨g, 0, none⟩, c)) := by
  have hkl : k < os.length := (List.getElem?_eq_some_iff.1 hk).1
  constructor
  · intro x hx
    obtain ⟨j, hj⟩ := List.mem_iff_getElem?.1 hx
    by_cases e1 : k = j
    · subst e1
      rw [List.getElem?_set_self hkl] at hj
      injection hj with hj
      subst hj
      exact hy
    · rw [List.getElem?_set_ne e1] at hj
      refine (h.all x (List.mem_of_getElem? hj)).kept hgr ?_
      unfold GA.val
      cases hA : x.2.2.1 with
      | none => exact .inl rfl
      | some ad =>
        refine .inr fun e' => ?_
        injection e' with e'
        exact h.others hk hj (fun e2 => e1 e2.symm) ad ⟨g, 0, none⟩ hA rfl e'
  · rw [List.pairwise_iff_getElem]
    intro i j hi hj hij
    have e1 : ∀ (i : Nat) (hi : i < (os.set k (ys, n, some ⟨g, 0, none⟩, c)).length), (os.set k (ys, n, some ⟨g, 0, none⟩, c))[i].2.2.1 = (os[i]'(by simpa using hi)).2.2.1 := by
      intro i hi
      rw [List.getElem_set]
      split
      · rename_i e2
        subst e2
        obtain ⟨_, e2⟩ := List.getElem?_eq_some_iff.1 hk
        rw [e2]
      · rfl
    rw [e1 i hi, e1 j hj]
    exact List.pairwise_iff_getElem.1 h.apart i j _ _ hij
end

/-! ### Families -/
structure FamG (e : TypeId) (size : Nat) (F : Nat → List Value) (w : World) (base : Nat) (os : List (Nat × GA)) : Prop where
  all : ∀ x ∈ os, w.ownsRow base e size x.2.val x.2.2.1 x.2.1
  pre : ∀ x ∈ os, x.2.1 <+: F x.1
  pair : ∀ x ∈ os, ∀ y ∈ os, Apart x.2.2.2.1 y.2.2.2.1 ∨ (x.1 = y.1 ∧ x.2.2.2 = y.2.2.2)
section
variable {e : TypeId} {size : Nat} {F : Nat → List Value} {w w' : World} {base : Nat} {os : List (Nat × GA)}
theorem FamG.sub {qs : List (Nat × GA)} (h : FamG e size F w base os) (hs : ∀ x ∈ qs, x ∈ os) : FamG e size F w base qs := ⟨fun x hx => h.all x (hs x hx), fun x hx => h.pre x (hs x hx), fun x hx y hy => h.pair x (hs x hx) y (hs y hy)⟩
theorem FamG.kept {row : Option Nat} (h : FamG e size F w base os) (hgr : w.grownBy w' row) (hne : ∀ x ∈ os, ∀ ad, x.2.2.2.1 = some ad → some ad.block ≠ row) : FamG e size F w' base os := by
  refine ⟨fun x hx => (h.all x hx).kept hgr ?_, h.pre, h.pair⟩
  unfold GA.val
  cases hA : x.2.2.2.1 with
  | none => exact .inl rfl
  | some ad => exact .inr fun e => hne x hx ad hA e
theorem FamG.next (h : FamG e size F w base os) (hb : Below w.heap.size w w') : FamG e size F w' base os := h.kept (grown_of_below hb) (by simp)
theorem FamG.ne_own {base' size' n : Nat} {e' : TypeId} {v : Value} {xs : List Value} (h : FamG e size F w base os) (ho : w.ownsRow base' e' size' v n xs) (hne : e ≠ e') : ∀ x ∈ os, ∀ ad, x.2.2.2.1 = some ad → some ad.block ≠ v.ownBlock := fun x hx ad hA he => by
  have h1 := h.all x hx
  unfold GA.val at h1
  rw [hA] at h1
  rcases own_ty_ne h1 ho hne with h2 | h2
  · cases h2
  · exact h2 he
theorem FamG.ne_blk {g : Nat} {t : TypeId} {cs : Array Value} (h : FamG e size F w base os) (hg : Blk w g t cs) (hne : e ≠ t) : ∀ x ∈ os, ∀ ad, x.2.2.2.1 = some ad → some ad.block ≠ some g := fun x hx ad hA he => by
  have h1 := h.all x hx
  unfold GA.val at h1
  rw [hA] at h1
  exact own_blk_ne h1 hg hne he
theorem FamG.append (h : FamG e size F w base os) {t n c m : Nat} {A : Option Addr} {xs news : List Value} (hx : (t, xs, n, A, c) ∈ os) (hp : xs ++ news <+: F t) {A1 : Option Addr} {c1 : Nat} {w1 : World} (hG : GrewG e size w base A c n xs news m A1 c1 w1) :
    FamG e size F w1 base ((t, xs ++ news, n + m, A1, c1) :: os) := by
  have hold : ∀ y ∈ os, w1.ownsRow base e size y.2.val y.2.2.1 y.2.1 := fun y hy => by
    rcases h.pair y hy _ hx with hap | ⟨ht, hloc⟩
    · refine (h.all y hy).kept hG.grown ?_
      unfold GA.val
      cases hyA : y.2.2.2.1 with
      | none => exact .inl rfl
      | some ad =>
        refine .inr fun e2 => ?_
        cases hA : A with
        | none => rw [hA] at e2; cases e2
        | some ad' =>
          rw [hA] at e2
          injection e2 with e2
          exact hap ad ad' hyA hA e2
    · have e1 : y.2.2.2.1 = A := congrArg Prod.fst hloc
      have e2 : y.2.2.2.2 = c := congrArg Prod.snd hloc
      have hy' := h.all y hy
      unfold GA.val at hy' ⊢
      rw [e1, e2] at hy' ⊢
      exact hG.also _ _ hy' (agreesG_of_prefix (by have := h.pre y hy; rwa [show y.1 = t from ht] at this) hp)
  have hrel : ∀ y ∈ os, Apart y.2.2.2.1 A1 ∨ (y.1 = t ∧ y.2.2.2 = (A1, c1)) := fun y hy => by
    rcases hG.lies with ⟨rfl, rfl⟩ | ⟨_, hnew⟩
    · exact h.pair y hy _ hx
    · refine .inl fun a b ha hb e2 => ?_
      have h1 := (own_lt_at (h.all y hy) ha).2
      have h2 := hnew b hb
      omega
  refine ⟨fun y hy => ?_, fun y hy => ?_, fun x hx y hy => ?_⟩
  · rcases List.mem_cons.1 hy with rfl | hy
    · exact hG.made
    · exact hold y hy
  · rcases List.mem_cons.1 hy with rfl | hy
    · exact hp
    · exact h.pre y hy
  · rcases List.mem_cons.1 hx with rfl | hx <;> rcases List.mem_cons.1 hy with rfl | hy
    · exact .inr ⟨rfl, rfl⟩
    · rcases hrel y hy with h1 | ⟨h1, h2⟩
      · exact .inl h1.symm
      · exact .inr ⟨h1.symm, h2.symm⟩
    · exact hrel x hx
    · exact h.pair x hx y hy
end
def taggedG (os : List GA) : List (Nat × GA) := os.zipIdx.map fun x => (x.2, x.1)
theorem taggedG_mem {os : List GA} {x : Nat × GA} : x ∈ taggedG os ↔ os[x.1]? = some x.2 := by
  unfold taggedG
  rw [List.mem_map]
  constructor
  · rintro ⟨⟨y, i⟩, hy, rfl⟩
    rw [List.mem_zipIdx_iff_getElem?] at hy
    simpa using hy
  · intro h
    exact ⟨(x.2, x.1), by rw [List.mem_zipIdx_iff_getElem?]; simpa using h, rfl⟩
theorem FamG.of_rows {e : TypeId} {size : Nat} {F : Nat → List Value} {w : World} {base : Nat} {os : List GA} (h : OGs e size w base os) (hp : ∀ i x, os[i]? = some x → x.1 <+: F i) : FamG e size F w base (taggedG os) := by
  refine ⟨fun x hx => h.all _ (List.mem_of_getElem? (taggedG_mem.1 hx)), fun x hx => hp _ _ (taggedG_mem.1 hx), fun x hx y hy => ?_⟩
  by_cases e1 : x.1 = y.1
  · have h1 := taggedG_mem.1 hx
    have h2 := taggedG_mem.1 hy
    rw [e1, h2] at h1
    injection h1 with h1
    exact .inr ⟨e1, by rw [h1]⟩
  · exact .inl (h.others (taggedG_mem.1 hy) (taggedG_mem.1 hx) e1)
end Go.Proofs.Ytikodgaomhmbmaa
