/-
  LiftLent: rows whatever their elements, rows filled element by element, word and lists walked, and what holds while the lists are lengthened.
-/
import Derived.Test.YtikodgaomhmbmaaDoorMH
import Derived.Test.YtikodgaomhmbmaaDoorF3
import Derived.Test.YtikodgaomhmbmaaDoorM2
import Derived.Test.YtikodgaomhmbmaaDoorM1
import Derived.Test.YtikodgaomhmbmaaDoorH5
import Derived.Laws.IdiomStrings
set_option linter.unusedVariables false
set_option linter.unusedSimpArgs false
namespace Go.Proofs.YtikodgaomhmbmaaDoor
open Go.RowKit

/-- A slice of a row: its cells, its length, where it begins, its room. -/
abbrev GA := List Value × Nat × Option Addr × Nat
def GA.val (x : GA) : Value := .slice x.2.2.1 x.2.1 x.2.2.2
/-- Where two lists both have a cell they have the same. -/
def AgreesG (m k : List Value) : Prop := ∀ (j : Nat) (x y : Value), m[j]? = some x → k[j]? = some y → x = y
theorem agreesG_of_prefix {m k f : List Value} (h1 : m <+: f) (h2 : k <+: f) : AgreesG m k := by
  intro j x y hx hy
  obtain ⟨t1, rfl⟩ := h1
  obtain ⟨t2, e⟩ := h2
  have h1 : (m ++ t1)[j]? = some x := by rw [List.getElem?_append_left (List.getElem?_eq_some_iff.1 hx).1]; exact hx
  have h2 : (k ++ t2)[j]? = some y := by rw [List.getElem?_append_left (List.getElem?_eq_some_iff.1 hy).1]; exact hy
  rw [e, h1] at h2
  injection h2
/-- What an append onto a row of one's own leaves. -/
structure GrewG (e : TypeId) (size : Nat) (w : World) (base : Nat) (A : Option Addr) (c n : Nat) (xs news : List Value) (m : Nat) (A1 : Option Addr) (c1 : Nat) (w1 : World) : Prop where
  made : w1.ownsRow base e size (.slice A1 (n + m) c1) (n + m) (xs ++ news)
  grown : w.grownBy w1 (A.map (·.block))
  lies : (A1 = A ∧ c1 = c) ∨ (w.grownBy w1 none ∧ ∀ ad, A1 = some ad → w.heap.size ≤ ad.block)
  also : ∀ n2 ys, w.ownsRow base e size (.slice A n2 c) n2 ys → AgreesG ys (xs ++ news) → w1.ownsRow base e size (.slice A n2 c) n2 ys
set_option maxRecDepth 100000 in
theorem run_append_share {P : Program} (w : World) (base : Nat) (t ty e : TypeId) (i : TypeInfo) (z : Value) (size bytes : Nat) (ht : P.underlying t = some (.slice e)) (hi : P.info? e = some i) (hz : i.zero = some z)
    (hsize : i.size = size) (hby : i.bytes = bytes) (hzs : z.cells.size = size) (hsz : 0 < size)
    (A : Option Addr) (c0 n : Nat) (xs : List Value) (hown : w.ownsRow base e size (.slice A n c0) n xs)
    (a : Addr) (m c : Nat) (news : List Value) (hl : news.length = m * size) (hnews : ∀ j u, news[j]? = some u → w.cell? (a.add j) = some u) (h1 : ∀ u ∈ news, u.oneCell' = true)
    (hb0 : 0 < bytes) (hbytes : (n + m) * bytes ≤ 140737488355328) (hbase : base ≤ w.heap.size) :
    ∃ A1 c1 w', (Builtin.append_ #[t, t] ty #[.slice A n c0, .slice (some a) m c]).run P w = .ok (.slice A1 (n + m) c1) w' ∧ GrewG e size w base A c0 n xs news m A1 c1 w' := by
  have hlen0 : n + m ≤ 140737488355328 := Nat.le_trans (Nat.le_mul_of_pos_right _ hb0) hbytes
  have h63 : n + m ≤ maxLen := by simp only [maxLen]; omega
  have h0 := hown
  rcases hown.2 with ⟨hv, hn0⟩ | ⟨g, cap, cur, hv, hbg, hg, hnc, hcm, hcs, htake⟩
  · injection hv with e1 _ e3
    subst e1 e3 hn0
    have hx : xs = [] := List.eq_nil_of_length_eq_zero (by simpa using hown.1)
    subst hx
    obtain ⟨v', w1, hrun, ho, hgr, _, _⟩ := run_append_own_at (P := P) w w.heap.size t ty e i z size bytes ht hi hz hsize hby hzs hsz (.slice none 0 0) 0 [] (own_nil w _ _ _) a m c news hl hnews h1 h63 hbytes (Nat.le_refl _)
    obtain ⟨A1, c1, rfl⟩ := own_slice ho
    have hg' : w.grownBy w1 none := hgr
    refine ⟨A1, c1, w1, hrun, own_mono ho hbase, hg', .inr ⟨hg', fun ad e2 => ?_⟩, fun n2 ys hy _ => hy.kept hg' (.inl rfl)⟩
    have := own_base ho ad.block (by rw [e2]; rfl)
    exact this
  · injection hv with e1 _ e3
    subst e1 e3
    have hlen : (xs ++ news).length = (n + m) * size := by rw [List.length_append, hown.1, hl, Nat.add_mul]
    by_cases hroom : n + m ≤ c0
    · have hfit : n * i.size + news.length ≤ cur.size := by rw [hl, hcs, hsize, ← Nat.add_mul]; exact Nat.mul_le_mul_right _ hroom
      have hr := run_append_room (P := P) w t ty e i ht hi g n c0 cur hg a m c news (by rw [hsize]; exact hl) hnews h1 hroom hfit
      rw [hsize] at hr hfit
      have hgr : w.grownBy (w.setRow g (cur.toList.take (n * size) ++ news ++ cur.toList.drop (n * size + news.length)).toArray) (some g) := ⟨rfl, rfl, rfl, by simp, fun k _ hk => setRow_other w g k _ (fun e => hk (by rw [e]))⟩
      have hsz2 : (cur.toList.take (n * size) ++ news ++ cur.toList.drop (n * size + news.length)).toArray.size = c0 * size := by
        simp only [List.size_toArray, List.length_append, List.length_take, List.length_drop, Array.length_toList]
        omega
      refine ⟨some ⟨g, 0, none⟩, c0, _, hr, ⟨hlen, .inr ⟨g, c0, _, rfl, hbg, setRow_heap w g cur _ e _ hg, hroom, hcm, hsz2, ?_⟩⟩, hgr, .inl ⟨rfl, rfl⟩, fun n2 ys hy hag => ⟨hy.1, .inr ⟨g, c0, _, rfl, hbg, setRow_heap w g cur _ e _ hg, ?_, hcm, hsz2, ?_⟩⟩⟩
      · rw [htake, ← hlen]
        exact List.take_left
      · rcases hy.2 with ⟨h2, h3⟩ | ⟨g', cap', cur', hv', _, _, hn2, _⟩
        · omega
        · injection hv' with _ _ e3
          omega
      · rcases hy.2 with ⟨h2, h3⟩ | ⟨g', cap', cur', hv', _, hg', hn2, _, _, ht2⟩
        · cases h2
        · injection hv' with e1 _ e3
          injection e1 with e1
          injection e1 with e1
          subst e1
          rw [hg] at hg'
          injection hg' with hg'
          injection hg' with e4 _ _
          subst e4
          rw [htake]
          apply List.ext_getElem?
          intro j
          rw [List.getElem?_take]
          by_cases hj : j < n2 * size
          · rw [if_pos hj]
            have hyj : cur.toList[j]? = ys[j]? := by rw [← ht2, List.getElem?_take, if_pos hj]
            have hjy : j < ys.length := by rw [hy.1]; exact hj
            rcases Nat.lt_or_ge j (xs ++ news).length with hjl | hjl
            · rw [List.getElem?_append_left hjl, List.getElem?_eq_getElem hjl, List.getElem?_eq_getElem hjy]
              rw [hag j ys[j] (xs ++ news)[j] (List.getElem?_eq_getElem hjy) (List.getElem?_eq_getElem hjl)]
            · rw [List.getElem?_append_right hjl, List.getElem?_drop, ← hyj]
              congr 1
              rw [List.length_append] at hjl ⊢
              have := hown.1
              omega
          · rw [if_neg hj, List.getElem?_eq_none (by rw [hy.1]; omega)]
    · have holds : ∀ j u, xs[j]? = some u → w.cell? ((⟨g, 0, none⟩ : Addr).add j) = some u := h0.cells (g := g) rfl
      have hr := run_append_grow (P := P) w t ty e i z ht hi hz ⟨g, 0, none⟩ n c0 xs (by rw [hsize]; exact hown.1) holds a m c news (by rw [hsize]; exact hl) hnews (by omega) (by omega) (by rw [hby]; exact growslice_fits (by omega) hbytes)
      have hge := grownCap_ge w (n + m) c0 e
      have hcm2 : grownCap w (n + m) c0 e ≤ maxLen := grownCap_le_maxLen w (n + m) c0 e h63
      generalize grownCap w (n + m) c0 e = c1 at hr hge hcm2
      have hgr : ∀ row, w.grownBy (w.drew.alloc (.cells (xs.toArray ++ news.toArray ++ Builtin.zeroCells z.cells (c1 - (n + m))) e)) row := fun row => ⟨rfl, rfl, rfl, by simp, fun k hk _ => Below.heap_alloc w.drew _ k hk⟩
      refine ⟨some ⟨w.heap.size, 0, none⟩, c1, _, hr, ⟨hlen, .inr ⟨w.heap.size, _, _, rfl, hbase, heap_alloc_new w.drew _, hge, hcm2, ?_, ?_⟩⟩, hgr _, .inr ⟨hgr none, fun ad' e2 => by injection e2 with e2; subst e2; exact Nat.le_refl _⟩, fun n2 ys hy _ => hy.kept (hgr none) (by cases Value.ownBlock _ <;> simp)⟩
      · simp only [Array.size_append, List.size_toArray, size_zeroCells, hzs, hown.1, hl, ← Nat.add_mul]
        congr 1
        omega
      · simp only [Array.toList_append, List.append_assoc]
        rw [← List.append_assoc, ← hlen]
        exact List.take_left
section
variable {P : Program} {ops : Array Oper} {rest : List Oper} {o : Oper} {a : Act} {Q : Exit → Act → World → Prop} {W : World}
theorem ev_append_share (hgd : o.guard = none) {s x : Operand} {t : TypeId} (ho : o.op = .call { callee := .builtin .append, args := #[s, x], argTypes := #[t, t] })
    {base : Nat} {e : TypeId} {z : Value} {size bytes : Nat} (ht : P.underlying t = some (.slice e)) (hinfo : (P.info? e).map (fun i => (i.zero, i.size, i.bytes)) = some (some z, size, bytes))
    (hzs : z.cells.size = size) (hsz : 0 < size) {A0 : Option Addr} {c0 n : Nat} {xs : List Value} (hs : a.eval s = .slice A0 n c0) (hown : W.ownsRow base e size (.slice A0 n c0) n xs)
    {ad : Addr} {m c : Nat} {news : List Value} (hx : a.eval x = .slice (some ad) m c) (hl : news.length = m * size) (hnews : ∀ j u, news[j]? = some u → W.cell? (ad.add j) = some u) (h1 : ∀ u ∈ news, u.oneCell' = true)
    (hbytes : (n + m) * bytes ≤ 140737488355328) (hb0 : 0 < bytes) (hbase : base ≤ W.heap.size)
    (h : ∀ A1 c1 w1, GrewG e size W base A0 c0 n xs news m A1 c1 w1 → wpList P ops Q rest (a.put o.dst (.slice A1 (n + m) c1)) w1) : wpList P ops Q (o :: rest) a W := by
  obtain ⟨i0, hi, hz0, hz1, hz2⟩ := info_parts hinfo
  obtain ⟨A1, c1, w1, hrun, hG⟩ := run_append_share (P := P) W base t o.type e i0 z size bytes ht hi hz0 hz1 hz2 hzs hsz A0 c0 n xs hown ad m c news hl hnews h1 hb0 hbytes hbase
  refine ev_run hgd (w1 := w1) (v := .slice A1 (n + m) c1) ?_ (h A1 c1 w1 hG)
  simp only [execOp, ho, resolve, invoke, builtin, Sem.run_bind, Sem.run_pure, Result.andThen_ok, List.map_toArray, List.map_cons, List.map_nil, hs, hx, hrun]
end

/-! ### Lists of such rows -/
structure OGs (e : TypeId) (size : Nat) (w : World) (base : Nat) (os : List GA) : Prop where
  all : ∀ x ∈ os, w.ownsRow base e size x.val x.2.1 x.1
  apart : os.Pairwise fun x y => Apart x.2.2.1 y.2.2.1
theorem own_lt_at {w : World} {base n c size : Nat} {e : TypeId} {A : Option Addr} {xs : List Value} (h : w.ownsRow base e size (.slice A n c) n xs) {ad : Addr} (hA : A = some ad) : base ≤ ad.block ∧ ad.block < w.heap.size := by
  subst hA
  exact h.lt _ rfl
section
variable {e : TypeId} {size : Nat} {w w' : World} {base : Nat} {os : List GA}
theorem OGs.nil : OGs e size w base [] := ⟨fun x hx => (by cases hx), List.Pairwise.nil⟩
theorem OGs.lt (h : OGs e size w base os) : ∀ x ∈ os, ∀ ad, x.2.2.1 = some ad → base ≤ ad.block ∧ ad.block < w.heap.size := fun x hx _ e => own_lt_at (h.all x hx) e
theorem OGs.kept {row : Option Nat} (h : OGs e size w base os) (hgr : w.grownBy w' row) (hne : ∀ x ∈ os, ∀ ad, x.2.2.1 = some ad → some ad.block ≠ row) : OGs e size w' base os := by
  refine ⟨fun x hx => (h.all x hx).kept hgr ?_, h.apart⟩
  unfold GA.val
  cases hA : x.2.2.1 with
  | none => exact .inl rfl
  | some ad => exact .inr fun e => hne x hx ad hA e
theorem OGs.next (h : OGs e size w base os) (hb : Below w.heap.size w w') : OGs e size w' base os := h.kept (grown_of_below hb) (by simp)
theorem OGs.mono {base' : Nat} (h : OGs e size w base os) (hb : base' ≤ base) : OGs e size w base' os := ⟨fun x hx => own_mono (h.all x hx) hb, h.apart⟩
theorem OGs.ne_own {base' size' n : Nat} {e' : TypeId} {v : Value} {xs : List Value} (h : OGs e size w base os) (ho : w.ownsRow base' e' size' v n xs) (hne : e ≠ e') : ∀ x ∈ os, ∀ ad, x.2.2.1 = some ad → some ad.block ≠ v.ownBlock := fun x hx ad hA he => by
  have h1 := h.all x hx
  unfold GA.val at h1
  rw [hA] at h1
  rcases own_ty_ne h1 ho hne with h2 | h2
  · cases h2
  · exact h2 he
theorem OGs.ne_blk {g : Nat} {t : TypeId} {cs : Array Value} (h : OGs e size w base os) (hg : Blk w g t cs) (hne : e ≠ t) : ∀ x ∈ os, ∀ ad, x.2.2.1 = some ad → some ad.block ≠ some g := fun x hx ad hA he => by
  have h1 := h.all x hx
  unfold GA.val at h1
  rw [hA] at h1
  exact own_blk_ne h1 hg hne he
theorem OGs.snoc {y : GA} (h : OGs e size w base os) (hy : w.ownsRow base e size y.val y.2.1 y.1) (hd : ∀ x ∈ os, Apart x.2.2.1 y.2.2.1) : OGs e size w base (os ++ [y]) := by
  constructor
  · intro x hx
    rcases List.mem_append.1 hx with hx | hx
    · exact h.all x hx
    · obtain rfl : x = y := by simpa using hx
      exact hy
  · refine List.pairwise_append.2 ⟨h.apart, List.pairwise_singleton _ _, ?_⟩
    intro a ha b hb
    obtain rfl : b = y := by simpa using hb
    exact hd a ha
theorem OGs.others (h : OGs e size w base os) {k : Nat} {y : GA} (hk : os[k]? = some y) {j : Nat} {x : GA} (hj : os[j]? = some x) (hne : j ≠ k) : Apart x.2.2.1 y.2.2.1 := by
  have hp := List.pairwise_iff_getElem.1 h.apart
  obtain ⟨hk1, rfl⟩ := List.getElem?_eq_some_iff.1 hk
  obtain ⟨hj1, rfl⟩ := List.getElem?_eq_some_iff.1 hj
  rcases Nat.lt_or_gt_of_ne hne with hl | hl
  · exact hp j k hj1 hk1 hl
  · exact (hp k j hk1 hj1 hl).symm
/-- A new row lies apart from those that were there. -/
theorem OGs.apart_new {base' n c : Nat} {A : Option Addr} {xs : List Value} (h : OGs e size w base os) (h' : w'.ownsRow base' e size (.slice A n c) n xs) (hb : w.heap.size ≤ base') : ∀ x ∈ os, Apart x.2.2.1 A := fun x hx a b ha hb' e2 => by
  have h1 := (h.lt x hx a ha).2
  have h2 := (own_lt_at h' hb').1
  omega
/-- One of the rows holds other cells, the others stay. -/
theorem OGs.set_ (h : OGs e size w base os) {k : Nat} {xs ys : List Value} {n g c : Nat} (hk : os[k]? = some (xs, n, some ⟨g, 0, none⟩, c)) (hy : w'.ownsRow base e size (.slice (some ⟨g, 0, none⟩) n c) n ys) (hgr : w.grownBy w' (some g)) : OGs e size w' base (os.set k (ys, n, some ⟨g, 0, none⟩, c)) := by
  have hkl : k < os.length := (List.getElem?_eq_some_iff.1 hk).1
  constructor
  · intro x hx
    obtain ⟨j, hj⟩ := List.mem_iff_getElem?.1 hx
    by_cases e1 : k = j
    · subst e1
      rw [List.getElem?_set_self hkl] at hj
      injection hj with hj
      subst hj
      exact hy
    · rw [List.getElem?_set_ne e1] at hj
      refine (h.all x (List.mem_of_getElem? hj)).kept hgr ?_
      unfold GA.val
      cases hA : x.2.2.1 with
      | none => exact .inl rfl
      | some ad =>
        refine .inr fun e' => ?_
        injection e' with e'
        exact h.others hk hj (fun e2 => e1 e2.symm) ad ⟨g, 0, none⟩ hA rfl e'
  · rw [List.pairwise_iff_getElem]
    intro i j hi hj hij
    have e1 : ∀ (i : Nat) (hi : i < (os.set k (ys, n, some ⟨g, 0, none⟩, c)).length), (os.set k (ys, n, some ⟨g, 0, none⟩, c))[i].2.2.1 = (os[i]'(by simpa using hi)).2.2.1 := by
      intro i hi
      rw [List.getElem_set]
      split
      · rename_i e2
        subst e2
        obtain ⟨_, e2⟩ := List.getElem?_eq_some_iff.1 hk
        rw [e2]
      · rfl
    rw [e1 i hi, e1 j hj]
    exact List.pairwise_iff_getElem.1 h.apart i j _ _ hij
end

/-! ### Families -/
structure FamG (e : TypeId) (size : Nat) (F : Nat → List Value) (w : World) (base : Nat) (os : List (Nat × GA)) : Prop where
  all : ∀ x ∈ os, w.ownsRow base e size x.2.val x.2.2.1 x.2.1
  pre : ∀ x ∈ os, x.2.1 <+: F x.1
  pair : ∀ x ∈ os, ∀ y ∈ os, Apart x.2.2.2.1 y.2.2.2.1 ∨ (x.1 = y.1 ∧ x.2.2.2 = y.2.2.2)
section
variable {e : TypeId} {size : Nat} {F : Nat → List Value} {w w' : World} {base : Nat} {os : List (Nat × GA)}
theorem FamG.sub {qs : List (Nat × GA)} (h : FamG e size F w base os) (hs : ∀ x ∈ qs, x ∈ os) : FamG e size F w base qs := ⟨fun x hx => h.all x (hs x hx), fun x hx => h.pre x (hs x hx), fun x hx y hy => h.pair x (hs x hx) y (hs y hy)⟩
theorem FamG.kept {row : Option Nat} (h : FamG e size F w base os) (hgr : w.grownBy w' row) (hne : ∀ x ∈ os, ∀ ad, x.2.2.2.1 = some ad → some ad.block ≠ row) : FamG e size F w' base os := by
  refine ⟨fun x hx => (h.all x hx).kept hgr ?_, h.pre, h.pair⟩
  unfold GA.val
  cases hA : x.2.2.2.1 with
  | none => exact .inl rfl
  | some ad => exact .inr fun e => hne x hx ad hA e
theorem FamG.next (h : FamG e size F w base os) (hb : Below w.heap.size w w') : FamG e size F w' base os := h.kept (grown_of_below hb) (by simp)
theorem FamG.ne_own {base' size' n : Nat} {e' : TypeId} {v : Value} {xs : List Value} (h : FamG e size F w base os) (ho : w.ownsRow base' e' size' v n xs) (hne : e ≠ e') : ∀ x ∈ os, ∀ ad, x.2.2.2.1 = some ad → some ad.block ≠ v.ownBlock := fun x hx ad hA he => by
  have h1 := h.all x hx
  unfold GA.val at h1
  rw [hA] at h1
  rcases own_ty_ne h1 ho hne with h2 | h2
  · cases h2
  · exact h2 he
theorem FamG.ne_blk {g : Nat} {t : TypeId} {cs : Array Value} (h : FamG e size F w base os) (hg : Blk w g t cs) (hne : e ≠ t) : ∀ x ∈ os, ∀ ad, x.2.2.2.1 = some ad → some ad.block ≠ some g := fun x hx ad hA he => by
  have h1 := h.all x hx
  unfold GA.val at h1
  rw [hA] at h1
  exact own_blk_ne h1 hg hne he
theorem FamG.append (h : FamG e size F w base os) {t n c m : Nat} {A : Option Addr} {xs news : List Value} (hx : (t, xs, n, A, c) ∈ os) (hp : xs ++ news <+: F t) {A1 : Option Addr} {c1 : Nat} {w1 : World} (hG : GrewG e size w base A c n xs news m A1 c1 w1) :
    FamG e size F w1 base ((t, xs ++ news, n + m, A1, c1) :: os) := by
  have hold : ∀ y ∈ os, w1.ownsRow base e size y.2.val y.2.2.1 y.2.1 := fun y hy => by
    rcases h.pair y hy _ hx with hap | ⟨ht, hloc⟩
    · refine (h.all y hy).kept hG.grown ?_
      unfold GA.val
      cases hyA : y.2.2.2.1 with
      | none => exact .inl rfl
      | some ad =>
        refine .inr fun e2 => ?_
        cases hA : A with
        | none => rw [hA] at e2; cases e2
        | some ad' =>
          rw [hA] at e2
          injection e2 with e2
          exact hap ad ad' hyA hA e2
    · have e1 : y.2.2.2.1 = A := congrArg Prod.fst hloc
      have e2 : y.2.2.2.2 = c := congrArg Prod.snd hloc
      have hy' := h.all y hy
      unfold GA.val at hy' ⊢
      rw [e1, e2] at hy' ⊢
      exact hG.also _ _ hy' (agreesG_of_prefix (by have := h.pre y hy; rwa [show y.1 = t from ht] at this) hp)
  have hrel : ∀ y ∈ os, Apart y.2.2.2.1 A1 ∨ (y.1 = t ∧ y.2.2.2 = (A1, c1)) := fun y hy => by
    rcases hG.lies with ⟨rfl, rfl⟩ | ⟨_, hnew⟩
    · exact h.pair y hy _ hx
    · refine .inl fun a b ha hb e2 => ?_
      have h1 := (own_lt_at (h.all y hy) ha).2
      have h2 := hnew b hb
      omega
  refine ⟨fun y hy => ?_, fun y hy => ?_, fun x hx y hy => ?_⟩
  · rcases List.mem_cons.1 hy with rfl | hy
    · exact hG.made
    · exact hold y hy
  · rcases List.mem_cons.1 hy with rfl | hy
    · exact hp
    · exact h.pre y hy
  · rcases List.mem_cons.1 hx with rfl | hx <;> rcases List.mem_cons.1 hy with rfl | hy
    · exact .inr ⟨rfl, rfl⟩
    · rcases hrel y hy with h1 | ⟨h1, h2⟩
      · exact .inl h1.symm
      · exact .inr ⟨h1.symm, h2.symm⟩
    · exact hrel x hx
    · exact h.pair x hx y hy
end
def taggedG (os : List GA) : List (Nat × GA) := os.zipIdx.map fun x => (x.2, x.1)
theorem taggedG_mem {os : List GA} {x : Nat × GA} : x ∈ taggedG os ↔ os[x.1]? = some x.2 := by
  unfold taggedG
  rw [List.mem_map]
  constructor
  · rintro ⟨⟨y, i⟩, hy, rfl⟩
    rw [List.mem_zipIdx_iff_getElem?] at hy
    simpa using hy
  · intro h
    exact ⟨(x.2, x.1), by rw [List.mem_zipIdx_iff_getElem?]; simpa using h, rfl⟩
theorem FamG.of_rows {e : TypeId} {size : Nat} {F : Nat → List Value} {w : World} {base : Nat} {os : List GA} (h : OGs e size w base os) (hp : ∀ i x, os[i]? = some x → x.1 <+: F i) : FamG e size F w base (taggedG os) := by
  refine ⟨fun x hx => h.all _ (List.mem_of_getElem? (taggedG_mem.1 hx)), fun x hx => hp _ _ (taggedG_mem.1 hx), fun x hx y hy => ?_⟩
  by_cases e1 : x.1 = y.1
  · have h1 := taggedG_mem.1 hx
    have h2 := taggedG_mem.1 hy
    rw [e1, h2] at h1
    injection h1 with h1
    exact .inr ⟨e1, by rw [h1]⟩
  · exact .inl (h.others (taggedG_mem.1 hy) (taggedG_mem.1 hx) e1)
end Go.Proofs.YtikodgaomhmbmaaDoor
namespace Go.Proofs.YtikodgaomhmbmaaDoor
open Go.RowKit

theorem info_ints : (Tryd.prog.info? 83).map (fun i => (i.zero, i.size, i.bytes)) = some (some (.slice none 0 0), 1, 24) := by kernel_rfl
/-- The tags that fields2 asks in its i-th turn. -/
def tg (i : Nat) : List Nat := fieldsOf (1 + ((i / 2 % 3 : Nat) : Int)) (1 + ((i / 6 : Nat) : Int))
theorem tg_len : ∀ i < 42, 2 ≤ (tg i).length ∧ (tg i).length ≤ 11 := by decide +kernel
theorem tg_odd {i m : Nat} (h : i % 2 = 1) (hm : m + 1 = i) : tg m = tg i := by
  unfold tg
  have e1 : m / 2 = i / 2 := by omega
  have e2 : m / 6 = i / 6 := by omega
  rw [e1, e2]
def MKI (i n : Nat) : List Value := List.replicate n (.int .i64 (100 + (i : Int)))
theorem MKI_len (i n : Nat) : (MKI i n).length = n := by simp [MKI]
theorem MKI_add (i j k : Nat) : MKI i j ++ MKI i k = MKI i (j + k) := by unfold MKI; rw [List.replicate_append_replicate]
theorem MKI_get {i n j : Nat} (h : j < n) : (MKI i n)[j]? = some (.int .i64 (100 + (i : Int))) := by unfold MKI; rw [List.getElem?_replicate, if_pos h]
def FI (k : Nat) : List Value := MKI k ((tg k).length + 20)
theorem FI_pre {k j : Nat} (h : j ≤ (tg k).length + 20) : MKI k j <+: FI k := ⟨MKI k ((tg k).length + 20 - j), by rw [MKI_add]; unfold FI; congr 1; omega⟩
def gaCells (l : List GA) : List Value := l.map GA.val
theorem gaCells_append (l m : List GA) : gaCells (l ++ m) = gaCells l ++ gaCells m := by simp [gaCells]
theorem cell_ga {w : World} {base g n c : Nat} {e : TypeId} {ls : List GA} (h : w.ownsRow base e 1 (.slice (some ⟨g, 0, none⟩) n c) n (gaCells ls)) {k : Nat} {xs : List Value} {m d : Nat} {A : Option Addr} (hx : ls[k]? = some (xs, m, A, d)) : w.cell? ⟨g, k, none⟩ = some (.slice A m d) :=
  own_cellN h k (by simp [gaCells, hx, GA.val])
theorem blk_one {w : World} {g : Nat} {t : TypeId} {v : Value} (h : Blk w g t #[v]) : ∀ j u, [v][j]? = some u → w.cell? ((⟨g, 0, none⟩ : Addr).add j) = some u := by
  intro j u hu
  have e : (⟨g, 0, none⟩ : Addr).add j = ⟨g, j, none⟩ := by unfold Addr.add; split <;> simp_all
  rw [e, h.cell]
  simpa using hu
theorem gaCells_get {l : List GA} {k : Nat} {x : GA} (h : l[k]? = some x) : (gaCells l)[k]? = some x.val := by simp [gaCells, h]
/-- The first k lists. -/
structure Got (k : Nat) (ls : List GA) : Prop where
  len : ls.length = k
  at_ : ∀ i x, ls[i]? = some x → x.1 = nats (tg i) ∧ x.2.1 = (tg i).length
theorem Got.nil : Got 0 [] := ⟨rfl, fun i x h => by simp at h⟩
theorem Got.snoc {k : Nat} {ls : List GA} (h : Got k ls) (A : Option Addr) (c : Nat) : Got (k + 1) (ls ++ [(nats (tg k), (tg k).length, A, c)]) := by
  refine ⟨by simp [h.len], fun i x hx => ?_⟩
  rcases Nat.lt_or_ge i k with hi | hi
  · rw [List.getElem?_append_left (by rw [h.len]; exact hi)] at hx
    exact h.at_ i x hx
  · rw [List.getElem?_append_right (by rw [h.len]; exact hi), h.len] at hx
    obtain ⟨hl, hx⟩ := List.getElem?_eq_some_iff.1 hx
    simp at hl
    obtain rfl : i = k := by omega
    simp at hx
    subst hx
    exact ⟨rfl, rfl⟩
theorem Got.get {k : Nat} {ls : List GA} (h : Got k ls) {i : Nat} (hi : i < k) : ∃ A c, ls[i]? = some (nats (tg i), (tg i).length, A, c) := by
  have hl : i < ls.length := by rw [h.len]; exact hi
  have hx := List.getElem?_eq_getElem hl
  obtain ⟨h1, h2⟩ := h.at_ i _ hx
  refine ⟨ls[i].2.2.1, ls[i].2.2.2, ?_⟩
  rw [hx, ← h1, ← h2]
theorem apart_of_own {A B : Option Addr} {n m c d : Nat} (h : (Value.slice A n c).ownBlock = none ∨ (Value.slice A n c).ownBlock ≠ (Value.slice B m d).ownBlock) : Apart A B := by
  intro a b ha hb e
  subst ha
  subst hb
  rcases h with h | h
  · cases h
  · exact h (by simp [Value.ownBlock, e])
theorem take_set_succ {α : Type} : ∀ (l : List α) (j : Nat) (v : α), j < l.length → (l.set j v).take (j + 1) = l.take j ++ [v]
  | [], j, v, h => by simp at h
  | x :: l, 0, v, _ => by simp
  | x :: l, j + 1, v, h => by simp only [List.set_cons_succ, List.take_succ_cons, List.cons_append]; rw [take_set_succ l j v (by simpa using h)]

/-- What holds until all marks are written: the lists ls and the copies ws lie in rows of their own; cur: what the lists' rows hold now. -/
structure FS (w wr : World) (A1 : Option Addr) (c1 : Nat) (A2 : Option Addr) (c2 : Nat) (ls ws cur : List GA) (i j : Nat) : Prop where
  below : Below w.heap.size w wr
  gotL : Got 42 ls
  gotW : Got 42 ws
  rowL : wr.ownsRow w.heap.size 83 1 (.slice A1 42 c1) 42 (gaCells ls)
  rowW : wr.ownsRow w.heap.size 83 1 (.slice A2 42 c2) 42 (gaCells ws)
  rows : OGs 3 1 wr w.heap.size cur
  was : OGs 3 1 wr w.heap.size ws
  apart : ∀ x ∈ cur, ∀ y ∈ ws, Apart x.2.2.1 y.2.2.1
  len : cur.length = 42
  at_ : ∀ k x, ls[k]? = some x → ∃ y, cur[k]? = some y ∧ y.2 = x.2 ∧ (k < i → y.1 = MKI k x.2.1) ∧ (k = i → y.1.take j = MKI i j)
section
variable {w wr W : World} {A1 A2 : Option Addr} {c1 c2 : Nat} {ls ws cur : List GA} {i j : Nat}
theorem FS.start (h1 : Below w.heap.size w wr) (h2 : Got 42 ls) (h3 : Got 42 ws) (h4 : wr.ownsRow w.heap.size 83 1 (.slice A1 42 c1) 42 (gaCells ls)) (h5 : wr.ownsRow w.heap.size 83 1 (.slice A2 42 c2) 42 (gaCells ws))
    (h6 : OGs 3 1 wr w.heap.size ls) (h7 : OGs 3 1 wr w.heap.size ws) (h8 : ∀ x ∈ ls, ∀ y ∈ ws, Apart x.2.2.1 y.2.2.1) : FS w wr A1 c1 A2 c2 ls ws ls 0 0 :=
  ⟨h1, h2, h3, h4, h5, h6, h7, h8, h2.len, fun k x hx => ⟨x, hx, rfl, fun h => absurd h (by omega), fun _ => by simp [MKI]⟩⟩
theorem FS.next (h : FS w wr A1 c1 A2 c2 ls ws cur i j) (hb : Below wr.heap.size wr W) : FS w W A1 c1 A2 c2 ls ws cur i j :=
  ⟨below_go h.below hb, h.gotL, h.gotW, own_next h.rowL hb, own_next h.rowW hb, h.rows.next hb, h.was.next hb, h.apart, h.len, h.at_⟩
theorem FS.cellL (h : FS w wr A1 c1 A2 c2 ls ws cur i j) {k : Nat} (hk : k < 42) : ∃ g A c, A1 = some ⟨g, 0, none⟩ ∧ ls[k]? = some (nats (tg k), (tg k).length, A, c) ∧ ∀ (u : Later wr), u.1.cell? ⟨g, k, none⟩ = some (.slice A (tg k).length c) := by
  obtain ⟨A, c, hx⟩ := h.gotL.get hk
  obtain ⟨g, hg, _⟩ := own_at h.rowL (by omega)
  subst hg
  exact ⟨g, A, c, rfl, hx, fun u => own_cellN (own_next h.rowL u.2) k (gaCells_get hx)⟩
theorem FS.cellW (h : FS w wr A1 c1 A2 c2 ls ws cur i j) {k : Nat} (hk : k < 42) : ∃ g A c, A2 = some ⟨g, 0, none⟩ ∧ ws[k]? = some (nats (tg k), (tg k).length, A, c) ∧ ∀ (u : Later wr), u.1.cell? ⟨g, k, none⟩ = some (.slice A (tg k).length c) := by
  obtain ⟨A, c, hx⟩ := h.gotW.get hk
  obtain ⟨g, hg, _⟩ := own_at h.rowW (by omega)
  subst hg
  exact ⟨g, A, c, rfl, hx, fun u => own_cellN (own_next h.rowW u.2) k (gaCells_get hx)⟩
theorem FS.readL (h : FS w wr A1 c1 A2 c2 ls ws ls i j) {k n : Nat} {xs : List Value} {A : Option Addr} {c : Nat} (hx : ls[k]? = some (xs, n, A, c)) (u : Later wr) : Reads u.1 u.1.heap.size 1 A n xs :=
  Reads.next (Reads.of_own (h.rows.all _ (List.mem_of_getElem? hx))) u.2
theorem FS.readW (h : FS w wr A1 c1 A2 c2 ls ws cur i j) {k n : Nat} {xs : List Value} {A : Option Addr} {c : Nat} (hx : ws[k]? = some (xs, n, A, c)) (u : Later wr) : Reads u.1 u.1.heap.size 1 A n xs :=
  Reads.next (Reads.of_own (h.was.all _ (List.mem_of_getElem? hx))) u.2
/-- The row of the i-th list as it is now. -/
theorem FS.row (h : FS w wr A1 c1 A2 c2 ls ws cur i j) {n : Nat} {xs : List Value} {A : Option Addr} {c : Nat} (hx : ls[i]? = some (xs, n, A, c)) : ∃ ys, cur[i]? = some (ys, n, A, c) ∧ wr.ownsRow w.heap.size 3 1 (.slice A n c) n ys ∧ ys.length = n := by
  obtain ⟨y, hy, e, _, _⟩ := h.at_ i _ hx
  obtain ⟨ys, r⟩ := y
  simp only at e
  subst e
  have := h.rows.all _ (List.mem_of_getElem? hy)
  exact ⟨ys, hy, this, by have := this.1; simpa using this⟩
theorem FS.byte (h : FS w wr A1 c1 A2 c2 ls ws cur i j) {n g c : Nat} {ys xs : List Value} (hx : ls[i]? = some (xs, n, some ⟨g, 0, none⟩, c)) (hy : cur[i]? = some (ys, n, some ⟨g, 0, none⟩, c)) (hj : j < n) (hl : ys.length = n)
    (hB : W.ownsRow w.heap.size 3 1 (.slice (some ⟨g, 0, none⟩) n c) n (ys.set j (.int .i64 (100 + (i : Int))))) (hgr : wr.grownBy W (some g)) : FS w W A1 c1 A2 c2 ls ws (cur.set i (ys.set j (.int .i64 (100 + (i : Int))), n, some ⟨g, 0, none⟩, c)) i (j + 1) := by
  have hil : i < cur.length := (List.getElem?_eq_some_iff.1 hy).1
  have hmem := List.mem_of_getElem? hy
  have hold := h.rows.all _ hmem
  have hg1 : w.heap.size ≤ g := own_base hold g rfl
  refine ⟨h.below.grown hgr h.below.size (fun k e => by injection e with e; omega), h.gotL, h.gotW, h.rowL.kept hgr ?_, h.rowW.kept hgr ?_, h.rows.set_ hy hB hgr, h.was.kept hgr (fun y hy' ad e e2 => ?_), fun x hx' y hy' => ?_, by simpa using h.len, fun k x hx' => ?_⟩
  · exact own_sym (own_ty_ne hold h.rowL (by decide))
  · exact own_sym (own_ty_ne hold h.rowW (by decide))
  · injection e2 with e2
    exact h.apart _ hmem y hy' ⟨g, 0, none⟩ ad rfl e e2.symm
  · rcases List.mem_or_eq_of_mem_set hx' with hx' | rfl
    · exact h.apart x hx' y hy'
    · exact h.apart _ hmem y hy'
  · obtain ⟨y, hyk, e1, e2, e3⟩ := h.at_ k x hx'
    by_cases hk : i = k
    · subst hk
      rw [hy] at hyk
      injection hyk with hyk
      subst hyk
      refine ⟨_, List.getElem?_set_self hil, e1, fun hlt => absurd hlt (by omega), fun _ => ?_⟩
      simp only
      rw [take_set_succ ys j _ (by omega), e3 rfl, show MKI i (j + 1) = MKI i j ++ MKI i 1 from (MKI_add i j 1).symm]
      rfl
    · exact ⟨y, by rw [List.getElem?_set_ne hk]; exact hyk, e1, e2, fun e => absurd e.symm hk⟩
theorem FS.next_row (h : FS w wr A1 c1 A2 c2 ls ws cur i j) {xs : List Value} {A : Option Addr} {c : Nat} (hx : ls[i]? = some (xs, j, A, c)) : FS w wr A1 c1 A2 c2 ls ws cur (i + 1) 0 := by
  refine ⟨h.below, h.gotL, h.gotW, h.rowL, h.rowW, h.rows, h.was, h.apart, h.len, fun k x hx' => ?_⟩
  obtain ⟨y, hyk, e1, e2, e3⟩ := h.at_ k x hx'
  refine ⟨y, hyk, e1, fun hlt => ?_, fun _ => by simp [MKI]⟩
  rcases Nat.lt_or_ge k i with hki | hki
  · exact e2 hki
  · obtain rfl : k = i := by omega
    have h1 := e3 rfl
    rw [hx] at hx'
    injection hx' with hx'
    subst hx'
    obtain ⟨ys, r⟩ := y
    simp only at e1
    subst e1
    have h2 := (h.rows.all _ (List.mem_of_getElem? hyk)).1
    simp only at h1 h2 ⊢
    rw [← h1, List.take_of_length_le (by omega)]
end

/-! ### While the lists are lengthened, and after -/
structure FL (b : Nat) (w wr : World) (A1 : Option Addr) (c1 : Nat) (A2 : Option Addr) (c2 : Nat) (ls ws : List GA) (fam : List (Nat × GA)) : Prop where
  below : Below w.heap.size w wr
  size : w.heap.size ≤ b ∧ b ≤ wr.heap.size
  gotL : Got 42 ls
  gotW : Got 42 ws
  rowL : wr.ownsRow w.heap.size 83 1 (.slice A1 42 c1) 42 (gaCells ls)
  rowW : wr.ownsRow w.heap.size 83 1 (.slice A2 42 c2) 42 (gaCells ws)
  ltL : ∀ k, (Value.slice A1 42 c1).ownBlock = some k → k < b
  ltW : ∀ k, (Value.slice A2 42 c2).ownBlock = some k → k < b
  was : OGs 3 1 wr w.heap.size ws
  fam_ : FamG 3 1 FI wr w.heap.size fam
  apart : ∀ x ∈ fam, ∀ y ∈ ws, Apart x.2.2.2.1 y.2.2.1
  has : ∀ k x, ls[k]? = some x → (k, MKI k x.2.1, x.2) ∈ fam
section
variable {b : Nat} {w wr W : World} {A1 A2 : Option Addr} {c1 c2 : Nat} {ls ws cur : List GA} {fam : List (Nat × GA)}
theorem FS.filled (h : FS w wr A1 c1 A2 c2 ls ws cur 42 0) : FL wr.heap.size w wr A1 c1 A2 c2 ls ws (taggedG cur) := by
  have hat : ∀ k y, cur[k]? = some y → ∃ x, ls[k]? = some x ∧ y.2 = x.2 ∧ y.1 = MKI k x.2.1 := fun k y hy => by
    have hk : k < 42 := by rw [← h.len]; exact (List.getElem?_eq_some_iff.1 hy).1
    obtain ⟨A, c, hx⟩ := h.gotL.get hk
    obtain ⟨y', hy', e1, e2, _⟩ := h.at_ k _ hx
    rw [hy] at hy'
    injection hy' with hy'
    subst hy'
    exact ⟨_, hx, e1, e2 hk⟩
  refine ⟨h.below, ⟨h.below.size, Nat.le_refl _⟩, h.gotL, h.gotW, h.rowL, h.rowW, fun k e => own_lt h.rowL k e, fun k e => own_lt h.rowW k e, h.was, FamG.of_rows h.rows (fun k y hy => ?_), fun x hx y hy => h.apart _ (List.mem_of_getElem? (taggedG_mem.1 hx)) y hy, fun k x hx => ?_⟩
  · obtain ⟨x, hx, _, e⟩ := hat k y hy
    rw [e, (h.gotL.at_ k x hx).2]
    exact FI_pre (by omega)
  · have hk : k < 42 := by rw [← h.gotL.len]; exact (List.getElem?_eq_some_iff.1 hx).1
    obtain ⟨y, hy, e1, e2, _⟩ := h.at_ k x hx
    rw [taggedG_mem]
    simp only
    rw [hy, ← e2 hk, ← e1]
theorem FL.kept {row : Option Nat} (h : FL b w wr A1 c1 A2 c2 ls ws fam) (hgr : wr.grownBy W row) (hne : (∀ x ∈ fam, ∀ ad, x.2.2.2.1 = some ad → some ad.block ≠ row) ∧ (∀ x ∈ ws, ∀ ad, x.2.2.1 = some ad → some ad.block ≠ row) ∧ ∀ k, row = some k → b ≤ k) : FL b w W A1 c1 A2 c2 ls ws fam := by
  refine ⟨h.below.grown hgr h.below.size (fun k e => by have := hne.2.2 k e; have := h.size; omega), ⟨h.size.1, Nat.le_trans h.size.2 hgr.size⟩, h.gotL, h.gotW, h.rowL.kept hgr ?_, h.rowW.kept hgr ?_, h.ltL, h.ltW, h.was.kept hgr hne.2.1, h.fam_.kept hgr hne.1, h.apart, h.has⟩
  · cases hv : (Value.slice A1 42 c1).ownBlock with
    | none => exact .inl rfl
    | some k => exact .inr fun e => by have := h.ltL k hv; have := hne.2.2 k e.symm; omega
  · cases hv : (Value.slice A2 42 c2).ownBlock with
    | none => exact .inl rfl
    | some k => exact .inr fun e => by have := h.ltW k hv; have := hne.2.2 k e.symm; omega
theorem FL.grown (h : FL b w wr A1 c1 A2 c2 ls ws fam) (hgr : wr.grownBy W none) : FL b w W A1 c1 A2 c2 ls ws fam := h.kept hgr ⟨by simp, by simp, fun k e => by cases e⟩
theorem FL.ne_own {n size : Nat} {v : Value} {xs : List Value} (h : FL b w wr A1 c1 A2 c2 ls ws fam) (ho : wr.ownsRow b 83 size v n xs) (hne : 3 ≠ 83) : (∀ x ∈ fam, ∀ ad, x.2.2.2.1 = some ad → some ad.block ≠ v.ownBlock) ∧ (∀ x ∈ ws, ∀ ad, x.2.2.1 = some ad → some ad.block ≠ v.ownBlock) ∧ ∀ k, v.ownBlock = some k → b ≤ k :=
  ⟨h.fam_.ne_own ho hne, h.was.ne_own ho hne, own_base ho⟩
theorem FL.sub {fam' : List (Nat × GA)} (h : FL b w wr A1 c1 A2 c2 ls ws fam) (hs : ∀ x ∈ fam', x ∈ fam) (hh : ∀ k x, ls[k]? = some x → (k, MKI k x.2.1, x.2) ∈ fam') : FL b w wr A1 c1 A2 c2 ls ws fam' :=
  ⟨h.below, h.size, h.gotL, h.gotW, h.rowL, h.rowW, h.ltL, h.ltW, h.was, h.fam_.sub hs, fun x hx => h.apart x (hs x hx), hh⟩
theorem own_famG {F : Nat → List Value} {w w1 : World} {base b size n s : Nat} {e e' : TypeId} {v : Value} {xs : List Value} {os : List (Nat × GA)} (ho : w.ownsRow b e size v n xs) (h : FamG e' s F w base os) {x : Nat × GA} (hx : x ∈ os) (hgr : w.grownBy w1 (x.2.2.2.1.map (·.block))) (hne : e' ≠ e) : w1.ownsRow b e size v n xs := by
  refine ho.kept hgr ?_
  cases hA : x.2.2.2.1 with
  | none => cases v.ownBlock <;> simp
  | some ad => exact .inr fun e2 => h.ne_own ho hne x hx ad hA e2.symm
/-- One of the lists is lengthened by what comes next of its mark. -/
theorem FL.append (h : FL b w wr A1 c1 A2 c2 ls ws fam) {t n c m : Nat} {A : Option Addr} {xs news : List Value} (hx : (t, xs, n, A, c) ∈ fam) (hp : xs ++ news <+: FI t) {A3 : Option Addr} {c3 : Nat} (hG : GrewG 3 1 wr w.heap.size A c n xs news m A3 c3 W) :
    FL b w W A1 c1 A2 c2 ls ws ((t, xs ++ news, n + m, A3, c3) :: fam) := by
  have hA : ∀ k, A.map (·.block) = some k → w.heap.size ≤ k := fun k e => by
    cases hA : A with
    | none => rw [hA] at e; cases e
    | some ad =>
      subst hA
      injection e with e
      have e : ad.block = k := e
      have := (own_lt_at (h.fam_.all _ hx) (ad := ad) rfl).1
      omega
  refine ⟨h.below.grown hG.grown h.below.size hA, ⟨h.size.1, Nat.le_trans h.size.2 hG.grown.size⟩, h.gotL, h.gotW, own_famG h.rowL h.fam_ hx hG.grown (by decide), own_famG h.rowW h.fam_ hx hG.grown (by decide), h.ltL, h.ltW, h.was.kept hG.grown (fun y hy ad e e2 => ?_), h.fam_.append hx hp hG, fun x hx' y hy => ?_, fun k x hx' => List.mem_cons_of_mem _ (h.has k x hx')⟩
  · cases hA : A with
    | none => rw [hA] at e2; cases e2
    | some ad' =>
      subst hA
      injection e2 with e2
      exact h.apart _ hx y hy ad' ad rfl e e2.symm
  · rcases List.mem_cons.1 hx' with rfl | hx'
    · rcases hG.lies with ⟨rfl, rfl⟩ | ⟨_, hnew⟩
      · exact h.apart _ hx y hy
      · intro a d ha hd e
        have h1 := (h.was.lt y hy d hd).2
        have h2 := hnew a ha
        omega
    · exact h.apart x hx' y hy
end
/-- What the lengthened lists are. -/
structure MoreI (k : Nat) (ts : List (Nat × GA)) : Prop where
  len : ts.length = k
  at_ : ∀ i, i < k → ∃ A c, ts[i]? = some (i, MKI i ((tg i).length + 20), (tg i).length + 20, A, c)
theorem MoreI.nil : MoreI 0 [] := ⟨rfl, fun i h => by omega⟩
theorem MoreI.snoc {k : Nat} {ts : List (Nat × GA)} (h : MoreI k ts) (A : Option Addr) (c : Nat) : MoreI (k + 1) (ts ++ [(k, MKI k ((tg k).length + 20), (tg k).length + 20, A, c)]) := by
  refine ⟨by simp [h.len], fun i hi => ?_⟩
  rcases Nat.lt_or_ge i k with hik | hik
  · obtain ⟨A', c', ha⟩ := h.at_ i hik
    exact ⟨A', c', by rw [List.getElem?_append_left (by rw [h.len]; omega)]; exact ha⟩
  · obtain rfl : i = k := by omega
    exact ⟨A, c, by rw [List.getElem?_append_right (by rw [h.len]; omega), h.len, Nat.sub_self]; rfl⟩
end Go.Proofs.YtikodgaomhmbmaaDoor
namespace Go.Proofs.YtikodgaomhmbmaaDoor
open Go.RowKit

theorem take_splice {α : Type} {l new : List α} {a s N : Nat} (hl : new.length = s) (h : a + s ≤ N) (hN : N ≤ l.length) : (l.take a ++ new ++ l.drop (a + s)).take N = (l.take N).take a ++ new ++ (l.take N).drop (a + s) := by
  have e1 : (l.take a).length = a := by rw [List.length_take]; omega
  have e2 : (l.take N).take a = l.take a := by rw [List.take_take, Nat.min_eq_left (by omega)]
  rw [e2, List.take_append, List.take_of_length_le (by rw [List.length_append, e1, hl]; omega), List.length_append, e1, hl, List.drop_take]
/-- A whole element is written. -/
theorem own_setE {w w' : World} {base g n c size : Nat} {e : TypeId} {xs : List Value} (h : w.ownsRow base e size (.slice (some ⟨g, 0, none⟩) n c) n xs) {k : Nat} (hk : k < n) {new : List Value} (hl : new.length = size) {cur : Array Value} (hg : Blk w g e cur)
    (hg' : Blk w' g e (cur.toList.take (k * size) ++ new ++ cur.toList.drop (k * size + size)).toArray) : w'.ownsRow base e size (.slice (some ⟨g, 0, none⟩) n c) n (xs.take (k * size) ++ new ++ xs.drop (k * size + size)) := by
  have hks : k * size + size ≤ n * size := by
    have := Nat.mul_le_mul_right size hk
    rwa [Nat.succ_mul] at this
  refine ⟨?_, ?_⟩
  · simp only [List.length_append, List.length_take, List.length_drop, hl, h.1]
    omega
  · rcases h.2 with ⟨h2, _⟩ | ⟨g', cap, cur', hv, hb, hh, h1, h2, h3, h4⟩
    · cases h2
    · injection hv with ha _ hc
      injection ha with ha
      injection ha with ha
      subst ha
      subst hc
      unfold Blk at hg
      rw [hg] at hh
      injection hh with hh
      injection hh with hh _ _
      subst hh
      refine .inr ⟨g, c, _, rfl, hb, hg', h1, h2, ?_, ?_⟩
      · have hcl : cur.toList.length = c * size := by simpa using h3
        have : n * size ≤ c * size := Nat.mul_le_mul_right _ h1
        simp only [List.size_toArray, List.length_append, List.length_take, List.length_drop, hl, hcl]
        omega
      · have hcl : cur.toList.length = c * size := by simpa using h3
        have hnc : n * size ≤ c * size := Nat.mul_le_mul_right _ h1
        rw [← h4]
        exact take_splice hl hks (by omega)
theorem own_blk {w : World} {base g n c size : Nat} {e : TypeId} {xs : List Value} (h : w.ownsRow base e size (.slice (some ⟨g, 0, none⟩) n c) n xs) : ∃ cur, Blk w g e cur ∧ n * size ≤ cur.size := by
  rcases h.2 with ⟨h2, _⟩ | ⟨g', cap, cur, hv, hb, hh, h1, h2, h3, h4⟩
  · cases h2
  · injection hv with ha _ hc
    injection ha with ha
    injection ha with ha
    subst ha
    exact ⟨cur, hh, by rw [h3]; exact Nat.mul_le_mul_right _ h1⟩
section
variable {P : Program} {ops : Array Oper} {rest : List Oper} {o : Oper} {a : Act} {Q : Exit → Act → World → Prop} {W : World}
/-- A store of a struct into a row of one's own. -/
theorem ev_store_elem (hgd : o.guard = none) (hN : o.dst = none) {t : TypeId} {p x : Operand} (ho : o.op = .store t p x) {base g n c size k off : Nat} {e : TypeId} {xs : List Value} {cs : Array Value} (hown : W.ownsRow base e size (.slice (some ⟨g, 0, none⟩) n c) n xs) (hk : k < n) (hoff : off = k * size)
    (hp : a.eval p = .pointer (some ⟨g, off, none⟩)) (hx : a.eval x = .agg cs) (hi : (P.info? t).map (·.size) = some cs.size) (hs : cs.size = size) (h1 : cs.all (·.oneCell') = true)
    (h : ∀ w1, w1.ownsRow base e size (.slice (some ⟨g, 0, none⟩) n c) n (xs.take (k * size) ++ cs.toList ++ xs.drop (k * size + size)) → W.grownBy w1 (some g) → wpList P ops Q rest a w1) : wpList P ops Q (o :: rest) a W := by
  obtain ⟨cur, hB, hc⟩ := own_blk hown
  subst hoff
  have hks : k * size + size ≤ n * size := by
    have := Nat.mul_le_mul_right size hk
    rwa [Nat.succ_mul] at this
  refine ev_store_part hgd hN ho hB hp hx hi (by omega) h1 rfl (fun w1 hb hgr => h w1 (own_setE hown hk (by simpa using hs) hB (by rw [hs] at hb; exact hb)) hgr)
end

/-! ### Rows that are being filled -/
structure Fg (e : TypeId) (size : Nat) (full : Nat → Nat → List Value) (wr : World) (base : Nat) (ls cur : List GA) (i j : Nat) : Prop where
  rows : OGs e size wr base cur
  len : cur.length = ls.length
  at_ : ∀ (k : Nat) (x : GA), ls[k]? = some x → ∃ y : GA, cur[k]? = some y ∧ y.2 = x.2 ∧ (k < i → y.1 = full k x.2.1) ∧ (k = i → y.1.take (j * size) = full i j)
section
variable {e : TypeId} {size : Nat} {full : Nat → Nat → List Value} {wr W : World} {base i j : Nat} {ls cur : List GA}
theorem Fg.start (h : OGs e size wr base ls) (h0 : full 0 0 = []) : Fg e size full wr base ls ls 0 0 := ⟨h, rfl, fun k x hx => ⟨x, hx, rfl, fun h => by omega, fun h => by subst h; simp [h0]⟩⟩
theorem Fg.next (h : Fg e size full wr base ls cur i j) (hb : Below wr.heap.size wr W) : Fg e size full W base ls cur i j := ⟨h.rows.next hb, h.len, h.at_⟩
theorem Fg.kept {row : Option Nat} (h : Fg e size full wr base ls cur i j) (hgr : wr.grownBy W row) (hne : ∀ x ∈ cur, ∀ ad, x.2.2.1 = some ad → some ad.block ≠ row) : Fg e size full W base ls cur i j := ⟨h.rows.kept hgr hne, h.len, h.at_⟩
theorem Fg.row (h : Fg e size full wr base ls cur i j) {n : Nat} {xs : List Value} {A : Option Addr} {c : Nat} (hx : ls[i]? = some (xs, n, A, c)) : ∃ ys, cur[i]? = some (ys, n, A, c) ∧ wr.ownsRow base e size (.slice A n c) n ys ∧ ys.take (j * size) = full i j := by
  obtain ⟨y, hy, e1, _, e2⟩ := h.at_ i _ hx
  obtain ⟨ys, r⟩ := y
  simp only at e1
  subst e1
  exact ⟨ys, hy, h.rows.all _ (List.mem_of_getElem? hy), e2 rfl⟩
theorem Fg.elem (h : Fg e size full wr base ls cur i j) {n g c : Nat} {ys ys' xs : List Value} (hx : ls[i]? = some (xs, n, some ⟨g, 0, none⟩, c)) (hy : cur[i]? = some (ys, n, some ⟨g, 0, none⟩, c)) (hB : W.ownsRow base e size (.slice (some ⟨g, 0, none⟩) n c) n ys') (ht : ys'.take ((j + 1) * size) = full i (j + 1)) (hgr : wr.grownBy W (some g)) :
    Fg e size full W base ls (cur.set i (ys', n, some ⟨g, 0, none⟩, c)) i (j + 1) := by
  refine ⟨h.rows.set_ hy hB hgr, by rw [List.length_set]; exact h.len, fun k x hx' => ?_⟩
  obtain ⟨y, hyk, e1, e2, e3⟩ := h.at_ k x hx'
  by_cases hk : i = k
  · subst hk
    rw [hy] at hyk
    injection hyk with hyk
    subst hyk
    exact ⟨_, List.getElem?_set_self (List.getElem?_eq_some_iff.1 hy).1, e1, fun hlt => absurd hlt (by omega), fun _ => ht⟩
  · exact ⟨y, by rw [List.getElem?_set_ne hk]; exact hyk, e1, e2, fun e => absurd e.symm hk⟩
theorem Fg.next_row (h : Fg e size full wr base ls cur i j) {xs : List Value} {A : Option Addr} {c : Nat} (hx : ls[i]? = some (xs, j, A, c)) (h0 : full (i + 1) 0 = []) : Fg e size full wr base ls cur (i + 1) 0 := by
  refine ⟨h.rows, h.len, fun k x hx' => ?_⟩
  obtain ⟨y, hyk, e1, e2, e3⟩ := h.at_ k x hx'
  refine ⟨y, hyk, e1, fun hlt => ?_, fun hk => by subst hk; simp [h0]⟩
  rcases Nat.lt_or_ge k i with hki | hki
  · exact e2 hki
  · obtain rfl : k = i := by omega
    have h1 := e3 rfl
    rw [hx] at hx'
    injection hx' with hx'
    subst hx'
    obtain ⟨ys, r⟩ := y
    simp only at e1
    subst e1
    have h2 := (h.rows.all _ (List.mem_of_getElem? hyk)).1
    simp only at h1 h2 ⊢
    rw [← h1, List.take_of_length_le (by omega)]
/-- All rows are full. -/
theorem Fg.done (h : Fg e size full wr base ls cur ls.length j) : cur = ls.mapIdx fun k x => (full k x.2.1, x.2) := by
  apply List.ext_getElem?
  intro k
  rw [List.getElem?_mapIdx]
  cases hx : ls[k]? with
  | none => rw [List.getElem?_eq_none (by rw [h.len]; exact List.getElem?_eq_none_iff.1 hx)]; rfl
  | some x =>
    obtain ⟨y, hy, e1, e2, _⟩ := h.at_ k x hx
    have := e2 (List.getElem?_eq_some_iff.1 hx).1
    obtain ⟨ys, r⟩ := y
    simp only at e1 this
    subst e1
    subst this
    exact hy
end
end Go.Proofs.YtikodgaomhmbmaaDoor
namespace Go.Proofs.YtikodgaomhmbmaaDoor
open Go.RowKit

theorem blk_bytes2 {w : World} {g : Nat} {t : TypeId} {x y : UInt8} (h : Blk w g t #[.int .u8 x.toNat, .int .u8 y.toNat]) : ∀ j (hj : j < [x, y].length), w.cell? ((⟨g, 0, none⟩ : Addr).add j) = some (.int .u8 ([x, y][j].toNat : Int)) := by
  intro j hj
  have e : (⟨g, 0, none⟩ : Addr).add j = ⟨g, j, none⟩ := by unfold Addr.add; split <;> simp_all
  rw [e, h.cell]
  match j, hj with
  | 0, _ => rfl
  | 1, _ => rfl
/-- The mark of the i-th list of words. -/
def wd (i : Nat) : ByteArray := ⟨#[UInt8.ofNat (97 + i), 33]⟩
set_option maxRecDepth 100000 in
theorem word_calls (i : Nat) (hi : i < 6) (w : World) :
    Calls Tryd.prog 26 #[.int .i64 i] w fun e w' => e = .returned (.string (wd i)) ∧ Below w.heap.size w w' := by
  have HB := Below.refl w.heap.size w
  have hw : IntKind.u8.wrap (97 + (i : Int)) = ((UInt8.ofNat (97 + i)).toNat : Int) := by rw [IntKind.wrap_u8, UInt8.toNat_ofNat']; omega
  generalize hb : UInt8.ofNat (97 + i) = b at hw
  have Hb := Lib.hid (show wd i = ⟨#[b, 33]⟩ by unfold wd; rw [hb])
  clear hb
  go_enter Tryd.func26, Tryd.ntmps26
  go_wp2_with (first
    | ((with_reducible refine gate_dst (N := 6) rfl ?_); refine ev_lit rfl rfl (#[.int .u8 b.toNat, .int .u8 33]) 5 2 (by first | (go_simp; done) | (go_simp; rfl)) ?_; intro g5 W1 hg5 hsz hbn; have hgr := grown_of_below hbn; have zg5 : w.heap.size ≤ g5 := (by have := HB.size; omega); replace HB := HB.grown hgr (by have := HB.size; omega) (by simp); have hcg5 := hg5.cell; have hfg5 := hg5.frozen; clear hsz hbn hgr)
    | ((with_reducible refine gate_dst (N := 7) rfl ?_); refine ev_run rfl (w1 := W1) (v := .string (ByteArray.mk #[b, 33])) (by have h := run_convert_bytes_back (P := Tryd.prog) W1 25 9 5 ⟨g5, 0, none⟩ 2 [b, 33] Tryd.underlying25 Tryd.underlying5 Tryd.underlying9 (blk_bytes2 (y := 33) hg5); simp only [List.length_cons, List.length_nil] at h; simp [execOp, go_sem, h]) ?_))
  go_ret
  exact ⟨by rw [Hb.out]; rfl, HB⟩
theorem steps13 : stepsL 1 3 = [⟨#[49,116,111,50]⟩, ⟨#[50,116,111,51]⟩] := by kernel_rfl
theorem steps31 : stepsL 3 1 = [⟨#[51,116,111,50]⟩, ⟨#[50,116,111,49]⟩] := by kernel_rfl
theorem steps13_len : (stepsL 1 3).length = 2 := by rw [steps13]; rfl
theorem steps31_len : (stepsL 3 1).length = 2 := by rw [steps31]; rfl
set_option maxHeartbeats 4000000 in
set_option maxRecDepth 100000 in
/-- annalslaw4.lists. -/
theorem lists_calls (to : Int) (n m : Nat) (A : Option Addr) (c : Nat) (ua ue : Int) (X : List Rec) (hx : X.length = m) (w : World) (ht : Tab w 1 waysL)
    (cu : Calls Tryd.prog 23 #[.int .i64 to, .slice A n c] w fun e w' => ∃ (A' : Option Addr) (c' : Nat) (os : List RA), e = .returned (.tuple #[.slice A' m c', .int .i64 ua, .int .i64 ue]) ∧ Aside (os.map (·.1) = X) ∧
        w'.ownsRow w.heap.size 27 12 (.slice A' m c') m (recCells os) ∧ RUs w' os ∧ Below w.heap.size w w') :
    Calls Tryd.prog 27 #[.int .i64 to, .slice A n c] w fun e w' => ∃ (A4 A5 A6 : Option Addr) (c4 c5 c6 : Nat) (os : List RA), e = .returned (.tuple #[.slice A4 2 c4, .slice A5 2 c5, .slice A6 m c6]) ∧ Aside (os.map (·.1) = X) ∧
      w'.ownsRow w.heap.size 9 1 (.slice A4 2 c4) 2 (strs (stepsL 1 3)) ∧ w'.ownsRow w.heap.size 9 1 (.slice A5 2 c5) 2 (strs (stepsL 3 1)) ∧ w'.ownsRow w.heap.size 27 12 (.slice A6 m c6) m (recCells os) ∧ RUs w' os ∧ Below w.heap.size w w' := by
  subst hx
  have HB := Below.refl w.heap.size w
  have Ht := Lib.hid ht
  have Cu := Lib.hid cu
  have k1 : True := trivial
  clear ht cu
  go_enter Tryd.func27, Tryd.ntmps27
  go_wp2_with (first
    | (go_at_call 23; (with_reducible refine (Cu.out).mono ?_); rintro e W1 ⟨A8, c8, os, rfl, hos, o8, S8, hb⟩; have hgr := grown_of_below hb; replace o8 := own_mono o8 HB.size; replace HB := HB.grown hgr (by have := HB.size; omega) (by simp); clear hb hgr)
    | (go_at_call 21; clear k1; (with_reducible refine (steps_calls' (a := 1) (b := 3) (l := stepsL 1 3) (n := 2) rfl steps13_len _ (Ht.out.next HB)).mono ?_); rintro e W2 ⟨A9, c9, rfl, o9, hb⟩; have hgr := grown_of_below hb; have do8o9 := own_apart o8 o9 (Nat.le_refl _); replace o9 := own_mono o9 HB.size; replace S8 := S8.kept hgr (by simp); replace o8 := o8.kept hgr (by cases Value.ownBlock _ <;> simp); replace HB := HB.grown hgr (by have := HB.size; omega) (by simp); clear hb hgr)
    | (go_at_call 21; (with_reducible refine (steps_calls' (a := 3) (b := 1) (l := stepsL 3 1) (n := 2) rfl steps31_len _ (Ht.out.next HB)).mono ?_); rintro e W3 ⟨A10, c10, rfl, o10, hb⟩; have hgr := grown_of_below hb; have do8o10 := own_apart o8 o10 (Nat.le_refl _); have do9o10 := own_apart o9 o10 (Nat.le_refl _); replace o10 := own_mono o10 HB.size; replace S8 := S8.kept hgr (by simp); replace o8 := o8.kept hgr (by cases Value.ownBlock _ <;> simp); replace o9 := o9.kept hgr (by cases Value.ownBlock _ <;> simp); replace HB := HB.grown hgr (by have := HB.size; omega) (by simp); clear hb hgr))
  refine bodyPost_ret (results_tmp3 rfl _ _ _) rfl ?_
  exact ⟨A9, A10, A8, c9, c10, c8, os, rfl, hos, o9, o10, o8, S8, HB⟩
end Go.Proofs.YtikodgaomhmbmaaDoor
namespace Go.Proofs.YtikodgaomhmbmaaDoor
open Go.RowKit

/-! ### A frame: the blocks Pr stay -/
structure KX (Pr : Nat → Prop) (w w' : World) : Prop where
  os_ : w'.os = w.os
  tape : w'.tape = w.tape
  output : w'.output = w.output
  size : w.heap.size ≤ w'.heap.size
  lt : ∀ k, Pr k → k < w.heap.size
  block : ∀ k, Pr k → w'.heap[k]? = w.heap[k]?
section
variable {Pr : Nat → Prop} {w w' w'' : World}
theorem KX.refl (h : ∀ k, Pr k → k < w.heap.size) : KX Pr w w := ⟨rfl, rfl, rfl, Nat.le_refl _, h, fun _ _ => rfl⟩
theorem KX.kept {row : Option Nat} (h : KX Pr w w') (hgr : w'.grownBy w'' row) (hne : ∀ k, row = some k → ¬ Pr k) : KX Pr w w'' :=
  ⟨hgr.os.trans h.os_, hgr.tape.trans h.tape, hgr.output.trans h.output, Nat.le_trans h.size hgr.size, h.lt, fun k hk => (hgr.block k (Nat.lt_of_lt_of_le (h.lt k hk) h.size) (fun e => hne k e.symm hk)).trans (h.block k hk)⟩
theorem KX.grown (h : KX Pr w w') (hgr : w'.grownBy w'' none) : KX Pr w w'' := h.kept hgr (by simp)
theorem KX.next (h : KX Pr w w') (hb : Below w'.heap.size w' w'') : KX Pr w w'' := h.grown (grown_of_below hb)
theorem KX.trans (h : KX Pr w w') (k : KX Pr w' w'') : KX Pr w w'' := ⟨k.os_.trans h.os_, k.tape.trans h.tape, k.output.trans h.output, Nat.le_trans h.size k.size, h.lt, fun i hi => (k.block i hi).trans (h.block i hi)⟩
theorem KX.sub {Qr : Nat → Prop} (h : KX Pr w w') (hs : ∀ k, Qr k → Pr k) : KX Qr w w' := ⟨h.os_, h.tape, h.output, h.size, fun k hk => h.lt k (hs k hk), fun k hk => h.block k (hs k hk)⟩
theorem KX.below (h : KX Pr w w') {N : Nat} (hN : ∀ k, k < N → Pr k) : Below N w w' := ⟨h.os_, h.tape, h.output, h.size, fun i hi => h.block i (hN i hi)⟩
theorem KX.row {b size n : Nat} {e : TypeId} {v : Value} {xs : List Value} (h : KX Pr w w') (ho : w.ownsRow b e size v n xs) (hp : ∀ k, v.ownBlock = some k → Pr k) : w'.ownsRow b e size v n xs := by
  refine ⟨ho.1, ?_⟩
  rcases ho.2 with h2 | ⟨g, cap, cur, hv, hb, hg, r⟩
  · exact .inl h2
  · exact .inr ⟨g, cap, cur, hv, hb, (h.block g (hp g (by rw [hv]; rfl))).trans hg, r⟩
theorem KX.ob {b c : Nat} {A : Option Addr} {l : List UInt8} (h : KX Pr w w') (hB : OB w b A c l) (hp : ∀ ad, A = some ad → Pr ad.block) : OB w' b A c l := by
  rcases hB with hB | ⟨g, cur, fz, ha, hb, hg, r⟩
  · exact .inl hB
  · exact .inr ⟨g, cur, fz, ha, hb, (h.block g (hp _ ha)).trans hg, r⟩
theorem KX.obs {b : Nat} {os : List BA} (h : KX Pr w w') (hQ : OBs w b os) (hp : ∀ x ∈ os, ∀ ad, x.2.1 = some ad → Pr ad.block) : OBs w' b os := ⟨fun x hx => h.ob (hQ.all x hx) (hp x hx), hQ.apart⟩
theorem kx_blk {g : Nat} (h : ¬ Pr g) : ∀ k, some g = some k → ¬ Pr k := fun k e => by injection e with e; subst e; exact h
theorem kx_app {v v' : Value} (h : KX Pr w w') (n : ∀ k, v.ownBlock = some k → ¬ Pr k) (hat : v'.ownBlock = v.ownBlock ∨ v'.ownBlock = some w'.heap.size) : ∀ k, v'.ownBlock = some k → ¬ Pr k := fun k hk hp => by
  rcases hat with e | e
  · exact n k (e ▸ hk) hp
  · rw [e] at hk
    injection hk with hk
    have := h.lt k hp
    have := h.size
    omega
theorem KX.kept_ob {A : Option Addr} (h : KX Pr w w') (hgr : w'.grownBy w'' (A.map (·.block))) (n : ∀ ad, A = some ad → ¬ Pr ad.block) : KX Pr w w'' := h.kept hgr fun k e => by
  cases hA : A with
  | none => rw [hA] at e; cases e
  | some a =>
    rw [hA] at e
    injection e with e
    have e : a.block = k := e
    rw [← e]
    exact n a hA
theorem kx_ob {base c c1 : Nat} {A A1 : Option Addr} {l l' : List UInt8} (h : KX Pr w w') (n : ∀ ad, A = some ad → ¬ Pr ad.block) (hG : Grew w' base A c l l' A1 c1 w'') : ∀ ad, A1 = some ad → ¬ Pr ad.block := by
  rcases hG.lies with ⟨rfl, _⟩ | ⟨_, hnew⟩
  · exact n
  · intro ad e hp
    have := hnew ad e
    have := h.lt _ hp
    have := h.size
    omega
end
theorem KX.ru {Pr : Nat → Prop} {w w' : World} {A : Option Addr} {l : List UInt8} (h : KX Pr w w') (hR : RU w A l) (hp : l ≠ [] → ∀ ad, A = some ad → Pr ad.block) : RU w' A l := by
  refine ⟨⟨hR.rb.1, fun hn => ?_⟩, fun hl => ?_⟩
  · have hl : l ≠ [] := by intro e; subst e; simp at hn
    obtain ⟨ad, e, hb, hc⟩ := hR.rb.2 hn
    have hk := h.block ad.block (hp hl ad e)
    refine ⟨ad, e, Nat.lt_of_lt_of_le hb h.size, fun j u hu => ?_⟩
    rw [← hc j u hu]
    have e2 : (ad.add j).block = ad.block := block_of_add ad j
    exact World.cell?_of_block (by rw [e2]; exact hk)
  · obtain ⟨ad, cs, fr, e, hh⟩ := hR.ty hl
    exact ⟨ad, cs, fr, e, (h.block ad.block (hp hl ad e)).trans hh⟩
theorem KX.blk {Pr : Nat → Prop} {w w' : World} {g : Nat} {t : TypeId} {cs : Array Value} (h : KX Pr w w') (hg : Blk w g t cs) (hp : Pr g) : Blk w' g t cs := (h.block g hp).trans hg

/-! ### The marks -/
def MKW (i n : Nat) : List Value := List.replicate n (.string (wd i))
theorem MKW_len (i n : Nat) : (MKW i n).length = n := by simp [MKW]
theorem MKW_add (i j k : Nat) : MKW i j ++ MKW i k = MKW i (j + k) := by unfold MKW; rw [List.replicate_append_replicate]
theorem MKW_get {i n j : Nat} (h : j < n) : (MKW i n)[j]? = some (.string (wd i)) := by unfold MKW; rw [List.getElem?_replicate, if_pos h]
def FW (i : Nat) : List Value := MKW i 22
theorem FW_pre {i j : Nat} (h : j ≤ 22) : MKW i j <+: FW i := ⟨MKW i (22 - j), by rw [MKW_add]; unfold FW; congr 1; omega⟩
/-- A record that has a version alone. -/
def verR (i : Nat) : Rec := { Rec.zero with V := -7 - (i : Int) }
def MKV (i n : Nat) : List Value := recCells (List.replicate n (verR i, none, 0))
theorem MKV_len (i n : Nat) : (MKV i n).length = n * 12 := by simp [MKV, recCells_length]
theorem MKV_add (i j k : Nat) : MKV i j ++ MKV i k = MKV i (j + k) := by unfold MKV; rw [← recCells_append, List.replicate_append_replicate]
theorem MKV_get {i n j : Nat} (h : j < n) : (MKV i n)[j * 12]? = some (.int .i64 (-7 - (i : Int))) := by
  unfold MKV
  rw [show j * 12 = j * 12 + 0 from rfl, recCells_get (x := (verR i, none, 0)) (by rw [List.getElem?_replicate, if_pos h]) 0 (by decide)]
  rfl
def FV (m i : Nat) : List Value := MKV i (m + 20)
theorem FV_pre {m i j : Nat} (h : j ≤ m + 20) : MKV i j <+: FV m i := ⟨MKV i (m + 20 - j), by rw [MKV_add]; unfold FV; congr 1; omega⟩
theorem fg_take {α : Type} {l new : List α} {j s : Nat} (hl : new.length = s) (hN : j * s + s ≤ l.length) : (l.take (j * s) ++ new ++ l.drop (j * s + s)).take ((j + 1) * s) = l.take (j * s) ++ new := by
  rw [Nat.succ_mul, List.take_append, List.take_of_length_le (by rw [List.length_append, List.length_take, hl]; omega), List.length_append, List.length_take, hl, show j * s + s - (min (j * s) l.length + s) = 0 by omega, List.take_zero, List.append_nil]

/-! ### The blocks that stay -/
abbrev AC := Option Addr × Nat
def Stay (w0 : World) (ls ms : List GA) (k : Nat) : Prop := k < w0.heap.size ∧ (∀ x ∈ ls, ∀ ad, x.2.2.1 = some ad → ad.block ≠ k) ∧ ∀ x ∈ ms, ∀ ad, x.2.2.1 = some ad → ad.block ≠ k
section
variable {w w0 : World} {ls ms : List GA}
theorem Stay.lt : ∀ k, Stay w0 ls ms k → k < w0.heap.size := fun _ h => h.1
theorem not_stay_l {x : GA} (hx : x ∈ ls) : ∀ ad, x.2.2.1 = some ad → ¬ Stay w0 ls ms ad.block := fun ad e h => h.2.1 x hx ad e rfl
theorem not_stay_m {x : GA} (hx : x ∈ ms) : ∀ ad, x.2.2.1 = some ad → ¬ Stay w0 ls ms ad.block := fun ad e h => h.2.2 x hx ad e rfl
theorem stay_own {b size n c : Nat} {e : TypeId} {A : Option Addr} {xs : List Value} (ho : w0.ownsRow b e size (.slice A n c) n xs) (h1 : ∀ x ∈ ls, Apart x.2.2.1 A) (h2 : ∀ x ∈ ms, Apart x.2.2.1 A) : ∀ k, (Value.slice A n c).ownBlock = some k → Stay w0 ls ms k := fun k hk => by
  refine ⟨own_lt ho k hk, fun x hx ad e he => ?_, fun x hx ad e he => ?_⟩
  · cases A with
    | none => cases hk
    | some a => injection hk with hk; exact h1 x hx ad a e rfl (he.trans hk.symm)
  · cases A with
    | none => cases hk
    | some a => injection hk with hk; exact h2 x hx ad a e rfl (he.trans hk.symm)
theorem OGs.apart_own {e e' : TypeId} {s b b' size n c : Nat} {A : Option Addr} {xs : List Value} {w : World} {l : List GA} (h : OGs e s w b l) (ho : w.ownsRow b' e' size (.slice A n c) n xs) (hne : e ≠ e') : ∀ x ∈ l, Apart x.2.2.1 A := fun x hx ad a hA e2 he => by
  subst e2
  exact h.ne_own ho hne x hx ad hA (by rw [he]; rfl)
theorem OGs.apart_ru {e : TypeId} {s b : Nat} {A : Option Addr} {l : List UInt8} {w : World} {os : List GA} (h : OGs e s w b os) (hR : RU w A l) (hne : 5 ≠ e) : l ≠ [] → ∀ ad, A = some ad → ∀ x ∈ os, ∀ ad', x.2.2.1 = some ad' → ad'.block ≠ ad.block := fun hl ad hA x hx ad' hA' e2 => by
  refine hR.ne_own (h.all x hx) hne hl ad hA ?_
  unfold GA.val
  rw [hA']
  exact congrArg some e2.symm
end
/-- What holds when the words, the records and what is wanted are there. -/
structure St (w w0 : World) (g7 : Nat) (a5 a6 a8 a10 a13 : AC) (m : Nat) (os : List RA) (ls ms : List GA) : Prop where
  below : Below w.heap.size w w0
  ways : Blk w0 g7 39 #[.int .i64 0, .int .i64 0, .int .i64 1, .int .i64 1, .int .i64 0, .int .i64 1]
  up : w0.ownsRow w.heap.size 9 1 (.slice a5.1 2 a5.2) 2 (strs (stepsL 1 3))
  down : w0.ownsRow w.heap.size 9 1 (.slice a6.1 2 a6.2) 2 (strs (stepsL 3 1))
  want : w0.ownsRow w.heap.size 27 12 (.slice a10.1 m a10.2) m (recCells os)
  wantd : RUs w0 os
  rowW : w0.ownsRow w.heap.size 38 1 (.slice a8.1 6 a8.2) 6 (gaCells ls)
  rowR : w0.ownsRow w.heap.size 22 1 (.slice a13.1 3 a13.2) 3 (gaCells ms)
  W : OGs 9 1 w0 w.heap.size ls
  R : OGs 27 12 w0 w.heap.size ms
  lenW : ls.length = 6
  lenR : ms.length = 3
  nW : ∀ x ∈ ls, x.2.1 = 2
  nR : ∀ x ∈ ms, x.2.1 = m
  apU : ∀ x ∈ ls, Apart x.2.2.1 a5.1
  apD : ∀ x ∈ ls, Apart x.2.2.1 a6.1
  apX : ∀ x ∈ ms, Apart x.2.2.1 a10.1
section
variable {w w0 wr : World} {g7 m : Nat} {a5 a6 a8 a10 a13 : AC} {os : List RA} {ls ms : List GA}
theorem St.kx (h : St w w0 g7 a5 a6 a8 a10 a13 m os ls ms) : KX (Stay w0 ls ms) w0 w0 := KX.refl Stay.lt
theorem St.below_at (h : St w w0 g7 a5 a6 a8 a10 a13 m os ls ms) (K : KX (Stay w0 ls ms) w0 wr) : Below w.heap.size w wr := h.below.trans (K.below fun k hk => ⟨by have := h.below.size; omega, fun x hx ad e => by have := (h.W.lt x hx ad e).1; omega, fun x hx ad e => by have := (h.R.lt x hx ad e).1; omega⟩)
theorem St.ways_at (h : St w w0 g7 a5 a6 a8 a10 a13 m os ls ms) (K : KX (Stay w0 ls ms) w0 wr) : Blk wr g7 39 #[.int .i64 0, .int .i64 0, .int .i64 1, .int .i64 1, .int .i64 0, .int .i64 1] :=
  K.blk h.ways ⟨h.ways.lt, fun x hx ad e he => h.W.ne_blk h.ways (by decide) x hx ad e (by rw [he]), fun x hx ad e he => h.R.ne_blk h.ways (by decide) x hx ad e (by rw [he])⟩
theorem St.up_at (h : St w w0 g7 a5 a6 a8 a10 a13 m os ls ms) (K : KX (Stay w0 ls ms) w0 wr) : wr.ownsRow w.heap.size 9 1 (.slice a5.1 2 a5.2) 2 (strs (stepsL 1 3)) := K.row h.up (stay_own h.up h.apU (h.R.apart_own h.up (by decide)))
theorem St.down_at (h : St w w0 g7 a5 a6 a8 a10 a13 m os ls ms) (K : KX (Stay w0 ls ms) w0 wr) : wr.ownsRow w.heap.size 9 1 (.slice a6.1 2 a6.2) 2 (strs (stepsL 3 1)) := K.row h.down (stay_own h.down h.apD (h.R.apart_own h.down (by decide)))
theorem St.want_at (h : St w w0 g7 a5 a6 a8 a10 a13 m os ls ms) (K : KX (Stay w0 ls ms) w0 wr) : wr.ownsRow w.heap.size 27 12 (.slice a10.1 m a10.2) m (recCells os) := K.row h.want (stay_own h.want (h.W.apart_own h.want (by decide)) h.apX)
theorem St.wantd_at (h : St w w0 g7 a5 a6 a8 a10 a13 m os ls ms) (K : KX (Stay w0 ls ms) w0 wr) : RUs wr os := fun x hx => K.ru (h.wantd x hx) fun hl ad hA => ⟨by
    obtain ⟨ad', cs, fr, e, hh⟩ := (h.wantd x hx).ty hl
    rw [hA] at e
    injection e with e
    subst e
    exact (Array.getElem?_eq_some_iff.1 hh).1, fun y hy ad' e => h.W.apart_ru (h.wantd x hx) (by decide) hl ad hA y hy ad' e, fun y hy ad' e => h.R.apart_ru (h.wantd x hx) (by decide) hl ad hA y hy ad' e⟩
theorem St.rowW_at (h : St w w0 g7 a5 a6 a8 a10 a13 m os ls ms) (K : KX (Stay w0 ls ms) w0 wr) : wr.ownsRow w.heap.size 38 1 (.slice a8.1 6 a8.2) 6 (gaCells ls) := K.row h.rowW (stay_own h.rowW (h.W.apart_own h.rowW (by decide)) (h.R.apart_own h.rowW (by decide)))
theorem St.rowR_at (h : St w w0 g7 a5 a6 a8 a10 a13 m os ls ms) (K : KX (Stay w0 ls ms) w0 wr) : wr.ownsRow w.heap.size 22 1 (.slice a13.1 3 a13.2) 3 (gaCells ms) := K.row h.rowR (stay_own h.rowR (h.W.apart_own h.rowR (by decide)) (h.R.apart_own h.rowR (by decide)))
end
end Go.Proofs.YtikodgaomhmbmaaDoor
namespace Go.Proofs.YtikodgaomhmbmaaDoor
open Go.RowKit

/-- The mark's row may be written where it is one of the words' rows: what stays stays. -/
theorem kx_fg_l {w0 wr W : World} {ls ms : List GA} {k : Nat} {xs : List Value} {n g c : Nat} (h : KX (Stay w0 ls ms) w0 wr) (hx : ls[k]? = some (xs, n, some ⟨g, 0, none⟩, c)) (hgr : wr.grownBy W (some g)) : KX (Stay w0 ls ms) w0 W :=
  h.kept hgr (kx_blk (not_stay_l (List.mem_of_getElem? hx) _ rfl))
theorem kx_fg_m {w0 wr W : World} {ls ms : List GA} {k : Nat} {xs : List Value} {n g c : Nat} (h : KX (Stay w0 ls ms) w0 wr) (hx : ms[k]? = some (xs, n, some ⟨g, 0, none⟩, c)) (hgr : wr.grownBy W (some g)) : KX (Stay w0 ls ms) w0 W :=
  h.kept hgr (kx_blk (not_stay_m (List.mem_of_getElem? hx) _ rfl))
/-- One element more is marked. -/
theorem fg_word {i j n : Nat} {ys : List Value} (hl : ys.length = n * 1) (hj : j < n) (ht : ys.take (j * 1) = MKW i j) : (ys.set j (.string (wd i))).take ((j + 1) * 1) = MKW i (j + 1) := by
  rw [Nat.mul_one] at ht ⊢
  rw [take_set_succ ys j _ (by omega), ht, show MKW i (j + 1) = MKW i j ++ MKW i 1 from (MKW_add i j 1).symm]
  rfl
theorem fg_rec {i j n : Nat} {ys : List Value} (hl : ys.length = n * 12) (hj : j < n) (ht : ys.take (j * 12) = MKV i j) : (ys.take (j * 12) ++ ((verR i).cells none 0).toList ++ ys.drop (j * 12 + 12)).take ((j + 1) * 12) = MKV i (j + 1) := by
  rw [fg_take (by rfl) (by omega), ht, show MKV i (j + 1) = MKV i j ++ MKV i 1 from (MKV_add i j 1).symm]
  rfl

theorem blk_row {w : World} {g : Nat} {t : TypeId} {cs : Array Value} (h : Blk w g t cs) : ∀ j u, cs.toList[j]? = some u → w.cell? ((⟨g, 0, none⟩ : Addr).add j) = some u := by
  intro j u hu
  have e : (⟨g, 0, none⟩ : Addr).add j = ⟨g, j, none⟩ := by unfold Addr.add; split <;> simp_all
  rw [e, h.cell]
  simpa using hu

/-! ### While the lists are lengthened, and after -/
structure LS (b : Nat) (w w0 wr : World) (ls ms : List GA) (m : Nat) (fw fr : List (Nat × GA)) : Prop where
  base : w0.heap.size ≤ b
  size : w.heap.size ≤ b ∧ b ≤ wr.heap.size
  K : KX (Stay w0 ls ms) w0 wr
  fW : FamG 9 1 FW wr w.heap.size fw
  fR : FamG 27 12 (FV m) wr w.heap.size fr
  nW : ∀ x ∈ fw, ∀ ad, x.2.2.2.1 = some ad → ¬ Stay w0 ls ms ad.block
  nR : ∀ x ∈ fr, ∀ ad, x.2.2.2.1 = some ad → ¬ Stay w0 ls ms ad.block
section
variable {b m : Nat} {w w0 wr W : World} {ls ms : List GA} {fw fr : List (Nat × GA)}
theorem LS.kept {row : Option Nat} (h : LS b w w0 wr ls ms m fw fr) (hgr : wr.grownBy W row) (hne : (∀ x ∈ fw, ∀ ad, x.2.2.2.1 = some ad → some ad.block ≠ row) ∧ (∀ x ∈ fr, ∀ ad, x.2.2.2.1 = some ad → some ad.block ≠ row) ∧ ∀ k, row = some k → b ≤ k) : LS b w w0 W ls ms m fw fr :=
  ⟨h.base, ⟨h.size.1, Nat.le_trans h.size.2 hgr.size⟩, h.K.kept hgr (fun k e hs => by have := hne.2.2 k e; have := hs.1; have := h.base; omega), h.fW.kept hgr hne.1, h.fR.kept hgr hne.2.1, h.nW, h.nR⟩
theorem LS.grown (h : LS b w w0 wr ls ms m fw fr) (hgr : wr.grownBy W none) : LS b w w0 W ls ms m fw fr := h.kept hgr ⟨by simp, by simp, fun k e => by cases e⟩
theorem LS.next (h : LS b w w0 wr ls ms m fw fr) (hb : Below wr.heap.size wr W) : LS b w w0 W ls ms m fw fr := h.grown (grown_of_below hb)
theorem LS.ne_own {n size : Nat} {e : TypeId} {v : Value} {xs : List Value} (h : LS b w w0 wr ls ms m fw fr) (ho : wr.ownsRow b e size v n xs) (hne : 9 ≠ e ∧ 27 ≠ e) : (∀ x ∈ fw, ∀ ad, x.2.2.2.1 = some ad → some ad.block ≠ v.ownBlock) ∧ (∀ x ∈ fr, ∀ ad, x.2.2.2.1 = some ad → some ad.block ≠ v.ownBlock) ∧ ∀ k, v.ownBlock = some k → b ≤ k :=
  ⟨h.fW.ne_own ho hne.1, h.fR.ne_own ho hne.2, own_base ho⟩
theorem LS.sub {fw' fr' : List (Nat × GA)} (h : LS b w w0 wr ls ms m fw fr) (hs : ∀ x ∈ fw', x ∈ fw) (hs2 : ∀ x ∈ fr', x ∈ fr) : LS b w w0 wr ls ms m fw' fr' :=
  ⟨h.base, h.size, h.K, h.fW.sub hs, h.fR.sub hs2, fun x hx => h.nW x (hs x hx), fun x hx => h.nR x (hs2 x hx)⟩
theorem LS.rebase {b' : Nat} (h : LS b w w0 wr ls ms m fw fr) (h1 : b ≤ b') (h2 : b' ≤ wr.heap.size) : LS b' w w0 wr ls ms m fw fr :=
  ⟨Nat.le_trans h.base h1, ⟨Nat.le_trans h.size.1 h1, h2⟩, h.K, h.fW, h.fR, h.nW, h.nR⟩
theorem fam_others {e e' : TypeId} {s s' base : Nat} {F F' : Nat → List Value} {os qs : List (Nat × GA)} (h : FamG e s F wr base os) (h' : FamG e' s' F' wr base qs) (hne : e ≠ e') {x : Nat × GA} (hx : x ∈ qs) : ∀ y ∈ os, ∀ ad, y.2.2.2.1 = some ad → some ad.block ≠ x.2.2.2.1.map (·.block) := fun y hy ad hA => by
  have h1 := h.ne_own (h'.all x hx) hne y hy ad hA
  unfold GA.val at h1
  cases hxA : x.2.2.2.1 with
  | none => simp
  | some a => rw [hxA] at h1; exact h1
theorem kx_ga {e : TypeId} {s base c n m c1 : Nat} {xs news : List Value} {A A1 : Option Addr} {Pr : Nat → Prop} (h : KX Pr w0 wr) (n0 : ∀ ad, A = some ad → ¬ Pr ad.block) (hG : GrewG e s wr base A c n xs news m A1 c1 W) : ∀ ad, A1 = some ad → ¬ Pr ad.block := by
  rcases hG.lies with ⟨rfl, _⟩ | ⟨_, hnew⟩
  · exact n0
  · intro ad e hp
    have := hnew ad e
    have := h.lt _ hp
    have := h.size
    omega
/-- A list of words is lengthened. -/
theorem LS.appW (h : LS b w w0 wr ls ms m fw fr) {t n c k : Nat} {A : Option Addr} {xs news : List Value} (hx : (t, xs, n, A, c) ∈ fw) (hp : xs ++ news <+: FW t) {A3 : Option Addr} {c3 : Nat} (hG : GrewG 9 1 wr w.heap.size A c n xs news k A3 c3 W) :
    LS b w w0 W ls ms m ((t, xs ++ news, n + k, A3, c3) :: fw) fr := by
  refine ⟨h.base, ⟨h.size.1, Nat.le_trans h.size.2 hG.grown.size⟩, h.K.kept_ob hG.grown (h.nW _ hx), h.fW.append hx hp hG, h.fR.kept hG.grown (fam_others h.fR h.fW (by decide) hx), fun y hy => ?_, h.nR⟩
  rcases List.mem_cons.1 hy with rfl | hy
  · exact kx_ga h.K (h.nW _ hx) hG
  · exact h.nW y hy
/-- A list of records is lengthened. -/
theorem LS.appR (h : LS b w w0 wr ls ms m fw fr) {t n c k : Nat} {A : Option Addr} {xs news : List Value} (hx : (t, xs, n, A, c) ∈ fr) (hp : xs ++ news <+: FV m t) {A3 : Option Addr} {c3 : Nat} (hG : GrewG 27 12 wr w.heap.size A c n xs news k A3 c3 W) :
    LS b w w0 W ls ms m fw ((t, xs ++ news, n + k, A3, c3) :: fr) := by
  refine ⟨h.base, ⟨h.size.1, Nat.le_trans h.size.2 hG.grown.size⟩, h.K.kept_ob hG.grown (h.nR _ hx), h.fW.kept hG.grown (fam_others h.fW h.fR (by decide) hx), h.fR.append hx hp hG, h.nW, fun y hy => ?_⟩
  rcases List.mem_cons.1 hy with rfl | hy
  · exact kx_ga h.K (h.nR _ hx) hG
  · exact h.nR y hy
/-- All rows are marked. -/
theorem LS.start {g7 : Nat} {a5 a6 a8 a10 a13 : AC} {os : List RA} (hst : St w w0 g7 a5 a6 a8 a10 a13 m os ls ms) (K : KX (Stay w0 ls ms) w0 wr) {cw cr : List GA} {j j' : Nat} (hw : Fg 9 1 MKW wr w.heap.size ls cw 6 j) (hr : Fg 27 12 MKV wr w.heap.size ms cr 3 j') :
    LS wr.heap.size w w0 wr ls ms m (taggedG (ls.mapIdx fun k x => (MKW k x.2.1, x.2))) (taggedG (ms.mapIdx fun k x => (MKV k x.2.1, x.2))) := by
  have e1 := Fg.done (ls := ls) (by rw [hst.lenW]; exact hw)
  have e2 := Fg.done (ls := ms) (by rw [hst.lenR]; exact hr)
  have gw := hw.rows
  have gr := hr.rows
  rw [e1] at gw
  rw [e2] at gr
  have h0 := hst.below.size
  have h1 := K.size
  refine ⟨h1, ⟨by omega, Nat.le_refl _⟩, K, FamG.of_rows gw (fun i x hx => ?_), FamG.of_rows gr (fun i x hx => ?_), fun x hx ad e => ?_, fun x hx ad e => ?_⟩
  · rw [List.getElem?_mapIdx] at hx
    cases hl : ls[i]? with
    | none => rw [hl] at hx; cases hx
    | some y =>
      rw [hl] at hx
      injection hx with hx
      subst hx
      simp only
      rw [hst.nW y (List.mem_of_getElem? hl)]
      exact FW_pre (by omega)
  · rw [List.getElem?_mapIdx] at hx
    cases hl : ms[i]? with
    | none => rw [hl] at hx; cases hx
    | some y =>
      rw [hl] at hx
      injection hx with hx
      subst hx
      simp only
      rw [hst.nR y (List.mem_of_getElem? hl)]
      exact FV_pre (by omega)
  · have hx' := taggedG_mem.1 hx
    rw [List.getElem?_mapIdx] at hx'
    cases hl : ls[x.1]? with
    | none => rw [hl] at hx'; cases hx'
    | some y =>
      rw [hl] at hx'
      injection hx' with hx'
      rw [← hx'] at e
      exact not_stay_l (List.mem_of_getElem? hl) ad e
  · have hx' := taggedG_mem.1 hx
    rw [List.getElem?_mapIdx] at hx'
    cases hl : ms[x.1]? with
    | none => rw [hl] at hx'; cases hx'
    | some y =>
      rw [hl] at hx'
      injection hx' with hx'
      rw [← hx'] at e
      exact not_stay_m (List.mem_of_getElem? hl) ad e
end
theorem tag_w {ls : List GA} {k n : Nat} {xs : List Value} {A : Option Addr} {c : Nat} (h : ls[k]? = some (xs, n, A, c)) : (k, MKW k n, n, A, c) ∈ taggedG (ls.mapIdx fun k x => (MKW k x.2.1, x.2)) := by
  rw [taggedG_mem, List.getElem?_mapIdx, h]
  rfl
theorem tag_r {ms : List GA} {k n : Nat} {xs : List Value} {A : Option Addr} {c : Nat} (h : ms[k]? = some (xs, n, A, c)) : (k, MKV k n, n, A, c) ∈ taggedG (ms.mapIdx fun k x => (MKV k x.2.1, x.2)) := by
  rw [taggedG_mem, List.getElem?_mapIdx, h]
  rfl
/-- What the lengthened lists are. -/
structure MoreG (mk : Nat → List Value) (n k : Nat) (ts : List (Nat × GA)) : Prop where
  len : ts.length = k
  at_ : ∀ i, i < k → ∃ A c, ts[i]? = some (i, mk i, n, A, c)
theorem MoreG.nil {mk : Nat → List Value} {n : Nat} : MoreG mk n 0 [] := ⟨rfl, fun i h => by omega⟩
theorem MoreG.snoc {mk : Nat → List Value} {n k : Nat} {ts : List (Nat × GA)} (h : MoreG mk n k ts) (A : Option Addr) (c : Nat) : MoreG mk n (k + 1) (ts ++ [(k, mk k, n, A, c)]) := by
  refine ⟨by simp [h.len], fun i hi => ?_⟩
  rcases Nat.lt_or_ge i k with hik | hik
  · obtain ⟨A', c', ha⟩ := h.at_ i hik
    exact ⟨A', c', by rw [List.getElem?_append_left (by rw [h.len]; omega)]; exact ha⟩
  · obtain rfl : i = k := by omega
    exact ⟨A, c, by rw [List.getElem?_append_right (by rw [h.len]; omega), h.len, Nat.sub_self]; rfl⟩
end Go.Proofs.YtikodgaomhmbmaaDoor
